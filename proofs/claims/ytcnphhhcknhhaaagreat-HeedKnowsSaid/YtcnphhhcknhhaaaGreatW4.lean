/- Words, plain data and contracts of the Go functions that this claim reaches. No condition beyond the hypotheses that each theorem states. -/
import Derived.Test.YtcnphhhcknhhaaaGreatW3
set_option linter.unusedSimpArgs false
set_option linter.unusedVariables false
namespace Go.Den
open Go
set_option linter.unusedVariables false
set_option linter.unusedSimpArgs false
/-- What a section makes of a book and a feed. -/
def WK.bf (k : WK) (c : Cfg) (t : Tm) (x : Book × Feed) : Book × Feed := match k with
  | .bad => x
  | .op o => if t.closed then x else ((writeB x.1 o t.now c.sessions).1, x.2.tell (writeB x.1 o t.now c.sessions).2.1 t.seq)
  | .sweep => ((sweepB x.1 t.now).1, x.2.tell (sweepB x.1 t.now).2 t.seq)
def WK.er (k : WK) (c : Cfg) (t : Tm) (b : Book) : Int := match k with
  | .bad => 0
  | .op o => if t.closed then 5 else (writeB b o t.now c.sessions).2.2
  | .sweep => 0
def bfH (H : Hall) (s : Nat) : Book × Feed := ((H.ss s).book, (H.ss s).feed)
theorem run_bf (k : WK) (H : Hall) (who : Int) (s : Nat) (t : Tm) (s' : Nat) : bfH (k.run H who s t).1 s' = if s' = s then k.bf H.c t (bfH H s) else bfH H s' := by
  by_cases h : s' = s
  · subst h
    cases k with
    | bad => simp [WK.run, WK.bf]
    | op o => simp only [WK.run, Hall.write, WK.bf, if_true]; split <;> simp [bfH, Hall.put, sput, Hall.wr, Hall.did]
    | sweep => simp [WK.run, Hall.sweep, WK.bf, bfH, Hall.put, sput, Hall.wr, Hall.did]
  · cases k with
    | bad => simp [WK.run, h]
    | op o => simp only [WK.run, Hall.write]; split <;> simp [bfH, Hall.put, sput, Hall.wr, Hall.did, h]
    | sweep => simp [WK.run, Hall.sweep, bfH, Hall.put, sput, Hall.wr, Hall.did, h]
theorem run_er (k : WK) (H : Hall) (who : Int) (s : Nat) (t : Tm) : (k.run H who s t).2 = k.er H.c t (H.ss s).book := by
  cases k with
  | bad => rfl
  | op o => simp only [WK.run, Hall.write, WK.er]; split <;> rfl
  | sweep => rfl
/-- What else a run of a section leaves. -/
theorem run_ss (k : WK) (H : Hall) (who : Int) (s : Nat) (t : Tm) (s' : Nat) : ((k.run H who s t).1.ss s').who = (H.ss s').who ∧ ((k.run H who s t).1.ss s').v = (H.ss s').v ∧ ((k.run H who s t).1.ss s').bound = (H.ss s').bound ∧ ((k.run H who s t).1.ss s').snap = (H.ss s').snap ∧ (k.run H who s t).1.t = H.t := by
  have key : ∀ (y : Strp) (H' : Hall), H'.ss = H.ss → H'.t = H.t → y.who = (H.ss s).who → y.v = (H.ss s).v → y.bound = (H.ss s).bound → y.snap = (H.ss s).snap → ((H'.put s y).ss s').who = (H.ss s').who ∧ ((H'.put s y).ss s').v = (H.ss s').v ∧ ((H'.put s y).ss s').bound = (H.ss s').bound ∧ ((H'.put s y).ss s').snap = (H.ss s').snap ∧ (H'.put s y).t = H.t := by
    intro y H' e1 e2 h1 h2 h3 h4
    simp only [Hall.put, sput, e1, e2]
    by_cases h : s' = s
    · subst h; simp [h1, h2, h3, h4]
    · simp [h]
  cases k with
  | bad => exact ⟨rfl, rfl, rfl, rfl, rfl⟩
  | op o =>
    simp only [WK.run, Hall.write]
    split
    · exact ⟨rfl, rfl, rfl, rfl, rfl⟩
    · exact key _ _ rfl rfl rfl rfl rfl rfl
  | sweep => exact key _ _ rfl rfl rfl rfl rfl rfl
inductive PR where
  | w (p : WP)
  | r (p : RP)
  | h (p : HP)
def PR.done : PR → Bool
  | .w p => p.done
  | .r p => decide (p.ph = 8)
  | .h p => p.done
def PR.placed : PR → Int
  | .w p => p.placed
  | .r p => p.placed
  | .h p => p.placed
def PR.rep : PR → Reply
  | .w p => if p.done then repE p.err else rep0
  | .r p => if p.ph = 8 then ⟨p.err, p.vals, [], false⟩ else rep0
  | .h p => if p.done then p.rep else rep0
def PR.enabled : PR → Hall → Bool
  | .w p, H => p.enabled H
  | .r p, H => p.enabled H
  | .h p, H => p.enabled H
def PR.waits : PR → Int
  | .w p => p.waits
  | .r p => p.waits
  | .h p => p.waits
def PR.step : PR → Mine → Hall → Int → PR × Mine × Hall
  | .w p, m, H, n => (.w (p.step H n).1, m, (p.step H n).2)
  | .r p, m, H, n => (.r (p.step H n).1, m, (p.step H n).2)
  | .h p, m, H, n => (.h (p.step m H n).1, (p.step m H n).2.1, (p.step m H n).2.2)
/-- The locks that a process has. -/
def WP.holds (p : WP) (s : Nat) : Prop := p.k.isBad = false ∧ 1 ≤ p.at_ ∧ p.at_ ≤ 6 ∧ s = p.s
def RP.holds (p : RP) (s : Nat) : Prop := (p.ph = 4 ∧ s ∈ p.ss.take p.at_) ∨ ((p.ph = 5 ∨ p.ph = 6) ∧ s ∈ p.ss) ∨ (p.ph = 7 ∧ s ∈ p.ss.drop p.at_)
def HP.holds (p : HP) (s : Nat) : Prop := p.one = false ∧ if p.x.kind = 8 then s < p.at_ ∧ s < p.k ∧ p.at_ ≤ 2 * p.k + 1 + s else 1 ≤ p.at_ ∧ p.at_ ≤ 3 ∧ s = p.s
def PR.holds : PR → Nat → Prop
  | .w p => p.holds
  | .r p => p.holds
  | .h p => p.holds
/-- What a process is still to do to a stripe, of what it has taken place at. -/
def WP.pend (p : WP) (c : Cfg) (s : Nat) (x : Book × Feed) : Book × Feed := if p.at_ = 3 ∧ s = p.s then p.k.bf c p.t x else x
/-- What a Watch does, by the time that was seen. -/
def HP.wres (p : HP) (m : Mine) (c : Cfg) : Int := if p.t.closed then 5 else if p.x.kind = 6 ∧ mhas m p.x.user = false ∧ c.watches ≤ m.length then 4 else 0
def HP.wfd (p : HP) (f : Feed) : Feed := if decide (p.x.kind = 6) then f.watch p.who p.x.user else f.unwatch p.who p.x.user
def HP.pend (p : HP) (m : Mine) (c : Cfg) (s : Nat) (x : Book × Feed) : Book × Feed :=
  if p.one then x else if p.x.kind = 8 then (if p.k < p.at_ ∧ p.at_ ≤ p.k + 1 + s then (x.1, x.2.drain p.who) else x)
  else if p.at_ = 2 ∧ s = p.s ∧ p.wres m c = 0 then (x.1, p.wfd x.2) else x
def PR.pend : PR → Mine → Cfg → Nat → Book × Feed → Book × Feed
  | .w p, _, c, s, x => p.pend c s x
  | .r _, _, _, _, x => x
  | .h p, m, c, s, x => p.pend m c s x
/-- What a client will know of itself. -/
def HP.em (p : HP) (m : Mine) (c : Cfg) : Mine := if p.one = false ∧ p.x.kind ≠ 8 ∧ p.at_ = 2 ∧ p.wres m c = 0 then miset m p.x.user (decide (p.x.kind = 6)) else m
def PR.em : PR → Mine → Cfg → Mine
  | .w _, m, _ => m
  | .r _, m, _ => m
  | .h p, m, c => p.em m c
/-- At what step a process takes place, and what befalls the table then. -/
def WP.places (p : WP) : Bool := p.k.isBad || decide (p.at_ = 2)
def HP.places (p : HP) : Bool := p.one || if p.x.kind = 8 then decide (p.at_ = p.k) else decide (p.at_ = 1)
def PR.places : PR → Bool
  | .w p => p.places
  | .r _ => false
  | .h p => p.places
def WK.bef (k : WK) (s : Nat) (M : Tbl) : Tbl × Reply := match k with
  | .bad => (M, repE 1)
  | .op x => M.write x
  | .sweep => (M.sweep s, rep0)
def PR.bef : PR → Tbl → Tbl × Reply
  | .w p, M => p.k.bef p.s M
  | .r _, M => (M, rep0)
  | .h p, M => M.do_ p.who p.x
structure Wd where
  H : Hall
  ps : Nat → Option PR
  ms : Nat → Mine
def Wd.pend (W : Wd) (s : Nat) : Book × Feed :=
  if (W.H.ss s).who = 0 then bfH W.H s else match W.ps ((W.H.ss s).who - 1).toNat with
    | some p => p.pend (W.ms ((W.H.ss s).who - 1).toNat) W.H.c s (bfH W.H s)
    | none => bfH W.H s
def Wd.em (W : Wd) (i : Nat) : Mine := match W.ps i with
  | some p => p.em (W.ms i) W.H.c
  | none => W.ms i
def Wd.step (W : Wd) (i : Nat) (n : Int) : Wd := match W.ps i with
  | some p => ⟨(p.step (W.ms i) W.H n).2.2, bset W.ps i (some (p.step (W.ms i) W.H n).1), bset W.ms i (p.step (W.ms i) W.H n).2.1⟩
  | none => W
end Go.Den
namespace Go.Den
open Go
set_option linter.unusedVariables false
set_option linter.unusedSimpArgs false
/-- A stripe that nobody has: the table's is its own. -/
structure Free (x : Strp) (y : Book × Feed) : Prop where
  wh : x.who = 0
  e : y = (x.book, x.feed)
  v : wrt x.v = false
  q : x.snap = x.book
/-- In the midst of a writing. -/
def PR.mid : PR → Nat → Prop
  | .w p, s => p.k.isBad = false ∧ 2 ≤ p.at_ ∧ p.at_ ≤ 5 ∧ s = p.s
  | .r _, _ => False
  | .h _, _ => False
def PR.at5 : PR → Prop
  | .w p => p.at_ = 5
  | .r _ => False
  | .h _ => False
/-- A stripe that a process has. -/
structure Held (p : PR) (m : Mine) (c : Cfg) (s : Nat) (x : Strp) (y : Book × Feed) : Prop where
  e : y = p.pend m c s (x.book, x.feed)
  v : p.mid s → wrt x.v = true ∨ x.bound ≤ x.v
  q : ¬ p.mid s → wrt x.v = false ∧ x.snap = x.book
  f : p.at5 → x.snap = x.book
def Tbl.st (M : Tbl) (s : Nat) : Book × Feed := (M.bk s, M.fd s)
structure Loc (i : Nat) (p p' : PR) (m m' : Mine) (H H' : Hall) (M M' : Tbl) (s : Nat) : Prop where
  a : p.holds s → (H.ss s).who = i + 1 → Held p m H.c s (H.ss s) (M.st s) → (p'.holds s ∧ (H'.ss s).who = i + 1 ∧ Held p' m' H.c s (H'.ss s) (M'.st s)) ∨ (¬ p'.holds s ∧ Free (H'.ss s) (M'.st s))
  b : ¬ p.holds s → (H'.ss s = H.ss s ∧ M'.st s = M.st s ∧ ¬ p'.holds s) ∨
    ((H.ss s).who = 0 ∧ M'.st s = M.st s ∧ p'.holds s ∧ H'.ss s = { H.ss s with who := i + 1 } ∧ ¬ p'.mid s ∧ ¬ p'.at5 ∧ ∀ x, p'.pend m' H.c s x = x)
/-- Nothing happens to a stripe but that the process goes on. -/
theorem Loc.same {i : Nat} {p p' : PR} {m m' : Mine} {H H' : Hall} {M M' : Tbl} {s : Nat} (h1 : H'.ss s = H.ss s) (h2 : M'.st s = M.st s) (h3 : p'.holds s ↔ p.holds s) (h4 : p'.mid s ↔ p.mid s) (h5 : p'.at5 → p.holds s → (H.ss s).snap = (H.ss s).book)
    (h6 : p.holds s → ∀ x, p'.pend m' H.c s x = p.pend m H.c s x) : Loc i p p' m m' H H' M M' s := by
  refine ⟨fun a b c => .inl ⟨h3.2 a, by rw [h1]; exact b, ?_⟩, fun a => .inl ⟨h1, h2, fun h => a (h3.1 h)⟩⟩
  rw [h1, h2]
  exact ⟨by rw [h6 a]; exact c.e, fun h => c.v (h4.1 h), fun h => c.q fun hh => h (h4.2 hh), fun h => h5 h a⟩
theorem lock_ss {H : Hall} {w : Int} {s : Nat} (hw : 0 ≤ w) (h : (H.ss s).who = 0) (s' : Nat) : (H.lock w s).ss s' = if s' = s then { H.ss s with who := w + 1 } else H.ss s' := by
  have hc : canTake (H.ss s).who w = true := by simp [canTake, hw, h]
  simp only [Hall.lock, hc, if_true, Hall.put, sput]; rfl
theorem unlock_ss {H : Hall} {w : Int} {s : Nat} (hw : 0 ≤ w) (h : (H.ss s).who = w + 1) (s' : Nat) : (H.unlock w s).ss s' = if s' = s then { H.ss s with who := 0 } else H.ss s' := by
  have hc : canGive (H.ss s).who w = true := by simp [canGive, h]; omega
  simp only [Hall.unlock, hc, if_true, Hall.put, sput]; rfl
theorem lock_t (H : Hall) (w : Int) (s : Nat) : (H.lock w s).t = H.t := by unfold Hall.lock; split <;> rfl
theorem unlock_t (H : Hall) (w : Int) (s : Nat) : (H.unlock w s).t = H.t := by unfold Hall.unlock; split <;> rfl
/-- What is asked of a writing. -/
structure WA (i : Nat) (p : WP) (c : Cfg) : Prop where
  w : p.who = i
  a : p.at_ ≤ 7
  s : ∀ x, p.k = .op x → p.s = (stripeOf x.user c.stripes).toNat
theorem bef_st {k : WK} {s : Nat} {M : Tbl} (hk : k.isBad = false) (hs : ∀ x, k = .op x → s = M.stripe x.user) (hn : s < M.n) (s' : Nat) : (k.bef s M).1.st s' = if s' = s then k.bf M.c M.take.t (M.st s) else M.st s' := by
  cases k with
  | bad => simp [WK.isBad] at hk
  | op x =>
    have e := hs x rfl
    have hc : M.take.t.closed = M.t.closed := rfl
    simp only [WK.bef, Tbl.write, WK.bf, hc]
    rw [← e]
    by_cases h : s' = s
    · subst h
      split <;> simp [Tbl.st, Tbl.take, Tbl.writeAt, bset]
    · split <;> simp [Tbl.st, Tbl.take, Tbl.writeAt, bset, h]
  | sweep =>
    have hc : (0 : Int) ≤ s ∧ (s : Int) < M.n := by omega
    simp only [WK.bef, Tbl.sweep, hc, and_self, if_true, Int.toNat_natCast, WK.bf]
    by_cases h : s' = s
    · subst h; simp [Tbl.st, Tbl.take, Tbl.sweepAt, bset]
    · simp [Tbl.st, Tbl.take, Tbl.sweepAt, bset, h]
theorem bef_t {k : WK} {s : Nat} {M : Tbl} (hk : k.isBad = false) (hn : s < M.n) : (k.bef s M).1.t = M.take.t ∧ (k.bef s M).1.c = M.c ∧ (k.bef s M).1.n = M.n := by
  cases k with
  | bad => simp [WK.isBad] at hk
  | op x => simp only [WK.bef, Tbl.write]; split <;> exact ⟨rfl, rfl, rfl⟩
  | sweep =>
    have hc : (0 : Int) ≤ s ∧ (s : Int) < M.n := by omega
    simp only [WK.bef, Tbl.sweep, hc, and_self, if_true]; exact ⟨rfl, rfl, rfl⟩
/-- The table's step. -/
def PR.tb (p : PR) (H : Hall) (M : Tbl) : Tbl := if p.enabled H = true ∧ p.places = true then (p.bef M).1 else M
theorem WP.not_holds {p : WP} {s : Nat} (h : s ≠ p.s) : ¬ p.holds s := fun hh => h hh.2.2.2
theorem wloc {i : Nat} {p : WP} {m k : Nat} {ms : Mine} {H : Hall} {M : Tbl} (hs : HS k H) (g : WG H.n p) (a : WA i p H.c) (ht : M.t = H.t) (hc : M.c = H.c) (hn : M.n = H.n) (n : Int) {s : Nat} (hs8 : s < H.n) (he : p.enabled H = true) :
    Loc i (.w p) ((PR.w p).step ms H n).1 ms ms H ((PR.w p).step ms H n).2.2 M ((PR.w p).tb H M) s := by
  have hl := enabled_at he
  have hw := a.w
  by_cases hb : p.k.isBad = true
  · have e1 : p.step H n = ({ p with err := 1, placed := n, at_ := 7 }, H) := by simp [WP.step, he, hb]
    have e2 : (PR.w p).tb H M = M := by
      have : p.k = .bad := by cases hk : p.k <;> simp [hk, WK.isBad] at hb ⊢
      simp [PR.tb, PR.bef, this, WK.bef]
    have e3 : (PR.w p).step ms H n = (.w { p with err := 1, placed := n, at_ := 7 }, ms, H) := by simp [PR.step, e1]
    rw [e2, e3]
    exact Loc.same rfl rfl ⟨fun h => by have := h.1; simp [hb] at this, fun h => by have := h.1; simp [hb] at this⟩ ⟨fun h => by have := h.1; simp [hb] at this, fun h => by have := h.1; simp [hb] at this⟩ (fun h => by simp [PR.at5] at h) (fun h => by have := h.1; simp [hb] at this)
  have hb : p.k.isBad = false := by simpa using hb
  have e1 : p.step H n = p.stp H n := by simp [WP.step, he, hb]
  have e3 : (PR.w p).step ms H n = (.w (p.stp H n).1, ms, (p.stp H n).2) := by simp [PR.step, e1]
  have e2 : p.at_ ≠ 2 → (PR.w p).tb H M = M := fun h => by simp [PR.tb, PR.places, WP.places, hb, h]
  rw [e3]
  have st := hs.st p.s g.s
  by_cases h0 : p.at_ = 0
  · rw [e2 (by omega), stp0 H n h0]
    have hwh : (H.ss p.s).who = 0 := by
      simp [WP.enabled, WP.waits, hb, h0] at he
      rcases he.2 with h | h
      · omega
      · exact h
    have hls := lock_ss (H := H) (w := p.who) (s := p.s) (by omega) hwh s
    by_cases hss : s = p.s
    · subst hss
      rw [if_pos rfl] at hls
      refine ⟨fun h => ?_, fun h => .inr ⟨hwh, rfl, ⟨hb, by simp, by simp, rfl⟩, by rw [hls, hw], fun h => by have := h.2.1; simp at this, fun h => by simp [PR.at5] at h, fun x => by simp [PR.pend, WP.pend]⟩⟩
      have := h.2.1; omega
    · rw [if_neg hss] at hls
      exact Loc.same hls rfl ⟨fun h => absurd h (WP.not_holds hss), fun h => absurd h (WP.not_holds hss)⟩ ⟨fun h => absurd h.2.2.2 hss, fun h => absurd h.2.2.2 hss⟩ (fun h => by simp [PR.at5] at h) (fun h => absurd h (WP.not_holds hss))
  by_cases hss : s = p.s
  rotate_left
  · -- another stripe
    have nh : ¬ (PR.w p).holds s := WP.not_holds hss
    obtain ⟨k1, k2, k3⟩ := stp_k p H n
    have nh' : ¬ (PR.w (p.stp H n).1).holds s := WP.not_holds (by rw [k3]; exact hss)
    refine ⟨fun h => absurd h nh, fun _ => .inl ⟨?_, ?_, nh'⟩⟩
    · by_cases h1 : p.at_ = 1
      · rw [stp1 H n h1]; simp [Hall.begin, Hall.put, sput, hss, Hall.did]
      by_cases h2 : p.at_ = 2
      · rw [stp2 H n h2]; rfl
      by_cases h3 : p.at_ = 3
      · rw [stp3 H n h3]
        have : ∀ (k : WK), (k.run H p.who p.s p.t).1.ss s = H.ss s := fun k => by
          cases k with
          | bad => rfl
          | op o => simp only [WK.run, Hall.write]; split <;> simp [Hall.put, sput, Hall.wr, Hall.did, hss]
          | sweep => simp [WK.run, Hall.sweep, Hall.put, sput, Hall.wr, Hall.did, hss]
        exact this p.k
      by_cases h4 : p.at_ = 4
      · rw [stp4 H n h4]; simp [Hall.pub, Hall.put, sput, hss, Hall.did]
      by_cases h5 : p.at_ = 5
      · rw [stp5 H n h5]; simp [Hall.end_, Hall.put, sput, hss, Hall.did]
      · rw [stp6 H n (by omega)]
        simp only [Hall.unlock]
        split
        · simp [Hall.put, sput, hss, Hall.did]
        · rfl
    · by_cases h2 : p.at_ = 2
      · have e4 : (PR.w p).tb H M = (p.k.bef p.s M).1 := by simp [PR.tb, PR.places, WP.places, PR.enabled, he, h2, PR.bef]
        rw [e4, bef_st hb (fun x hx => by rw [a.s x hx, ← hc]; rfl) (by rw [hn]; exact g.s), if_neg hss]
      · rw [e2 h2]
  subst hss
  have ho : (PR.w p).holds p.s := ⟨hb, by omega, by omega, rfl⟩
  refine ⟨fun _ hwho hd => ?_, fun h => absurd ho h⟩
  by_cases h1 : p.at_ = 1
  · rw [e2 (by omega), stp1 H n h1]
    have hq := hd.q fun h => by have := h.2.1; omega
    have hss : (H.begin p.who p.s).ss p.s = { H.ss p.s with v := bgn (H.ss p.s).v (H.ss p.s).bound } := by simp [Hall.begin, Hall.put, sput, Hall.did]
    refine .inl ⟨⟨hb, by simp, by simp, rfl⟩, by rw [hss]; exact hwho, ?_⟩
    rw [hss]
    refine ⟨?_, fun _ => ?_, fun h => absurd ⟨hb, by simp, by simp, rfl⟩ h, fun h => by simp [PR.at5] at h⟩
    · have := hd.e; simpa [PR.pend, WP.pend, h1] using this
    · have hv := hq.1
      dsimp only
      unfold bgn
      by_cases hlt : (H.ss p.s).v < (H.ss p.s).bound
      · left; rw [if_pos ⟨hlt, hv⟩]; simp [wrt] at hv ⊢; omega
      · right; rw [if_neg (fun h => hlt h.1)]; omega
  by_cases h2 : p.at_ = 2
  · have e4 : (PR.w p).tb H M = (p.k.bef p.s M).1 := by simp [PR.tb, PR.places, WP.places, PR.enabled, he, h2, PR.bef]
    rw [e4, stp2 H n h2, bef_st hb (fun x hx => by rw [a.s x hx, ← hc]; rfl) (by rw [hn]; exact g.s), if_pos rfl]
    refine .inl ⟨⟨hb, by simp, by simp, rfl⟩, hwho, ?_, fun _ => hd.v ⟨hb, by omega, by omega, rfl⟩, fun h => absurd ⟨hb, by simp, by simp, rfl⟩ h, fun h => by simp [PR.at5] at h⟩
    have he' := hd.e
    simp only [PR.pend, WP.pend, h2] at he'
    have he' : M.st p.s = ((H.ss p.s).book, (H.ss p.s).feed) := by simpa using he'
    rw [he', hc]
    have htt : M.take.t = (H.take p.who).t := by simp [Tbl.take, Hall.take, Hall.did, ht]
    rw [htt]
    simp [PR.pend, WP.pend]; rfl
  rw [e2 h2]
  have hmid : 2 ≤ p.at_ → p.at_ ≤ 5 → (PR.w p).mid p.s := fun h h' => ⟨hb, h, h', rfl⟩
  by_cases h3 : p.at_ = 3
  · rw [stp3 H n h3]
    obtain ⟨r1, r2, r3, r4, r5⟩ := run_ss p.k H p.who p.s p.t p.s
    have hbf := run_bf p.k H p.who p.s p.t p.s
    rw [if_pos rfl] at hbf
    refine .inl ⟨⟨hb, by simp, by simp, rfl⟩, by rw [r1]; exact hwho, ?_, fun _ => by dsimp only; rw [r2, r3]; exact hd.v (hmid (by omega) (by omega)), fun h => absurd ⟨hb, by simp, by simp, rfl⟩ h, fun h => by simp [PR.at5] at h⟩
    have he' := hd.e
    simp only [PR.pend, WP.pend, h3] at he'
    simp only [bfH] at hbf
    simp [PR.pend, WP.pend, he', hbf]
  by_cases h4 : p.at_ = 4
  · rw [stp4 H n h4]
    have hss : (H.pub p.who p.s).ss p.s = { H.ss p.s with snap := (H.ss p.s).book } := by simp [Hall.pub, Hall.put, sput, Hall.did]
    refine .inl ⟨⟨hb, by simp, by simp, rfl⟩, by rw [hss]; exact hwho, ?_⟩
    rw [hss]
    refine ⟨?_, fun _ => hd.v (hmid (by omega) (by omega)), fun h => absurd ⟨hb, by simp, by simp, rfl⟩ h, fun _ => rfl⟩
    have := hd.e; simpa [PR.pend, WP.pend, h4] using this
  by_cases h5 : p.at_ = 5
  · rw [stp5 H n h5]
    have hss : (H.end_ p.who p.s).ss p.s = { H.ss p.s with v := endV (H.ss p.s).v } := by simp [Hall.end_, Hall.put, sput, Hall.did]
    refine .inl ⟨⟨hb, by simp, by simp, rfl⟩, by rw [hss]; exact hwho, ?_⟩
    rw [hss]
    refine ⟨?_, fun h => by have := h.2.2.1; simp at this, fun _ => ⟨?_, hd.f h5⟩, fun h => by simp [PR.at5] at h⟩
    · have := hd.e; simpa [PR.pend, WP.pend, h5] using this
    · have hv := hd.v (hmid (by omega) (by omega))
      have h1 := st.v0; have h2 := st.vb
      simp only [endV, wrt] at hv ⊢
      simp at hv ⊢
      split <;> omega
  · have h6 : p.at_ = 6 := by omega
    rw [stp6 H n (by omega)]
    have hls := unlock_ss (H := H) (w := p.who) (s := p.s) (by omega) (by rw [hw]; exact hwho) p.s
    rw [if_pos rfl] at hls
    have hq := hd.q fun h => by have := h.2.2.1; omega
    refine .inr ⟨fun h => by have := h.2.2.1; simp at this, ?_⟩
    rw [hls]
    refine ⟨rfl, ?_, hq.1, hq.2⟩
    have := hd.e; simpa [PR.pend, WP.pend, h6] using this
end Go.Den
namespace Go.Den
open Go
set_option linter.unusedVariables false
set_option linter.unusedSimpArgs false
/-- What is asked of a reading. -/
structure RA (i : Nat) (p : RP) : Prop where
  w : p.who = i
  nd : p.ss.Nodup
theorem RP.next_cases (p : RP) (ph : Int) : (p.at_ + 1 < p.k ∧ p.next ph = { p with at_ := p.at_ + 1 }) ∨ (p.k ≤ p.at_ + 1 ∧ p.next ph = { p with ph := ph, at_ := 0 }) := by
  by_cases h : p.at_ + 1 < p.k
  · exact .inl ⟨h, by simp [RP.next, h]⟩
  · exact .inr ⟨by omega, by simp [RP.next, h]⟩
theorem RP.nh {p : RP} {s : Nat} (h : p.ph ≠ 4) (h5 : p.ph ≠ 5) (h6 : p.ph ≠ 6) (h7 : p.ph ≠ 7) : ¬ p.holds s := by
  rintro (h | h | h)
  · exact absurd h.1 (by omega)
  · rcases h.1 with h | h <;> omega
  · exact absurd h.1 (by omega)
theorem take_succ_mem {l : List Nat} {i : Nat} (hi : i < l.length) (s : Nat) : s ∈ l.take (i + 1) ↔ s ∈ l.take i ∨ s = l[i] := by
  rw [List.take_succ_eq_append_getElem hi, List.mem_append, List.mem_singleton]
theorem drop_mem {l : List Nat} {i : Nat} (hi : i < l.length) (s : Nat) : s ∈ l.drop i ↔ s = l[i] ∨ s ∈ l.drop (i + 1) := by
  rw [List.drop_eq_getElem_cons hi, List.mem_cons]
theorem nodup_drop {l : List Nat} (nd : l.Nodup) {i : Nat} (hi : i < l.length) : l[i] ∉ l.drop (i + 1) := by
  intro h
  obtain ⟨j, hj, e⟩ := List.getElem_of_mem h
  rw [List.getElem_drop] at e
  have := (List.getElem_inj nd).1 e
  omega
theorem nodup_take {l : List Nat} (nd : l.Nodup) {i : Nat} (hi : i < l.length) : l[i] ∉ l.take i := by
  intro h
  obtain ⟨j, hj, e⟩ := List.getElem_of_mem h
  rw [List.getElem_take] at e
  have := (List.getElem_inj nd).1 e
  simp at hj; omega
theorem rloc {i : Nat} {p : RP} {ms : Mine} {H : Hall} {M : Tbl} (rk : RK H.n p) (a : RA i p) (n : Int) {s : Nat} (hs8 : s < H.n) (he : p.enabled H = true) :
    Loc i (.r p) ((PR.r p).step ms H n).1 ms ms H ((PR.r p).step ms H n).2.2 M ((PR.r p).tb H M) s := by
  have hw := a.w
  have e2 : (PR.r p).tb H M = M := by simp [PR.tb, PR.places]
  have e3 : (PR.r p).step ms H n = (.r (p.step H n).1, ms, (p.step H n).2) := rfl
  rw [e2, e3]
  -- nothing is changed, and the locks stay
  have triv : ∀ (q : RP) (H' : Hall), H'.ss s = H.ss s → (q.holds s ↔ p.holds s) → Loc i (.r p) (.r q) ms ms H H' M M s := fun q H' h1 h2 =>
    Loc.same h1 rfl h2 (by rfl) (fun h => h.elim) (fun _ _ => rfl)
  have h8 : p.ph ≠ 8 := fun h => by simp [RP.enabled, h] at he
  by_cases hz : p.ss = []
  · have : p.step H n = ({ p with err := 1, vals := [], placed := n, ph := 8 }, H) := by simp [RP.step, he, hz]
    rw [this]
    refine triv _ _ rfl ⟨fun h => absurd h (RP.nh (by simp) (by simp) (by simp) (by simp)), fun h => ?_⟩
    rcases rk.e0 hz with h0 | h0
    · exact absurd h (RP.nh (by omega) (by omega) (by omega) (by omega))
    · exact absurd h0 h8
  have hat := rk.at_ h8 hz
  have hss : p.s = p.ss[p.at_]'hat := RP.s_lt hat
  have e1 : p.step H n = p.go H n := by simp [RP.step, he, hz]
  rw [e1]
  have hph := rk.ph
  have nhof : p.ph ≠ 4 → p.ph ≠ 5 → p.ph ≠ 6 → p.ph ≠ 7 → ¬ p.holds s := fun a b c d => RP.nh a b c d
  -- nothing is held, nor then
  have nn : ∀ (q : RP) (H' : Hall), H'.ss s = H.ss s → p.ph ≠ 4 → p.ph ≠ 5 → p.ph ≠ 6 → p.ph ≠ 7 → ¬ q.holds s → Loc i (.r p) (.r q) ms ms H H' M M s := fun q H' h a b c d e =>
    triv q H' h ⟨fun hh => absurd hh e, fun hh => absurd hh (nhof a b c d)⟩
  unfold RP.go
  by_cases h0 : p.ph = 0
  · rw [if_pos h0]
    refine nn _ _ rfl (by omega) (by omega) (by omega) (by omega) ?_
    rcases RP.next_cases { p with ep := epset p.ep p.at_ (H.ss p.s).v, spent := p.spent || decide (evn H.c.epochs ≤ (H.ss p.s).v) } 1 with ⟨_, e⟩ | ⟨_, e⟩ <;> rw [e] <;> exact RP.nh (by simp; try omega) (by simp; try omega) (by simp; try omega) (by simp; try omega)
  rw [if_neg h0]
  by_cases h1 : p.ph = 1
  · rw [if_pos h1]
    refine nn _ _ rfl (by omega) (by omega) (by omega) (by omega) ?_
    rcases RP.next_cases { p with seen := seenset p.seen p.s (H.ss p.s).snap } 2 with ⟨_, e⟩ | ⟨_, e⟩ <;> rw [e] <;> exact RP.nh (by simp; try omega) (by simp; try omega) (by simp; try omega) (by simp; try omega)
  rw [if_neg h1]
  by_cases h2 : p.ph = 2
  · rw [if_pos h2]
    exact nn _ _ rfl (by omega) (by omega) (by omega) (by omega) (RP.nh (by simp) (by simp) (by simp) (by simp))
  rw [if_neg h2]
  by_cases h5 : p.ph = 5
  · rw [if_pos h5]
    refine triv _ _ rfl ⟨fun h => ?_, fun h => ?_⟩
    · rcases h with h | h | h
      · have := h.1; simp at this
      · exact .inr (.inl ⟨.inl h5, h.2⟩)
      · have := h.1; simp at this
    · rcases h with h | h | h
      · have := h.1; omega
      · exact .inr (.inl ⟨.inr rfl, h.2⟩)
      · have := h.1; omega
  rw [if_neg h5]
  by_cases h3 : p.ph = 3
  · rw [if_pos h3]
    refine nn _ _ rfl (by omega) (by omega) (by omega) (by omega) ?_
    dsimp only
    split
    · rename_i hl
      have key : ∀ q : RP, q.ss = p.ss → q.at_ = 0 → ¬ q.judge.holds s := fun q hq hq0 => by
        unfold RP.judge
        split
        · exact RP.nh (by simp) (by simp) (by simp) (by simp)
        split
        · rintro (h | h | h)
          · have h' := h.2; rw [show ({ q with ph := 4 } : RP).at_ = q.at_ from rfl, hq0] at h'; simp at h'
          · have := h.1; simp at this
          · have := h.1; simp at this
        · exact RP.nh (by simp [RP.begin]) (by simp [RP.begin]) (by simp [RP.begin]) (by simp [RP.begin])
      rcases RP.next_cases { p with valid := p.valid && validB (p.ep p.at_) (H.ss p.s).v H.c.epochs } 8 with ⟨h, e⟩ | ⟨_, e⟩
      · simp [RP.last] at hl; have : p.at_ + 1 < p.k := h; have : p.k ≤ p.at_ + 1 := hl; omega
      · rw [e]; exact key _ rfl rfl
    · rename_i hl
      rcases RP.next_cases { p with valid := p.valid && validB (p.ep p.at_) (H.ss p.s).v H.c.epochs } 8 with ⟨h, e⟩ | ⟨_, e⟩ <;> rw [e] <;> exact RP.nh (by simp; try omega) (by simp; try omega) (by simp; try omega) (by simp; try omega)
  rw [if_neg h3]
  by_cases h4 : p.ph = 4
  · rw [if_pos h4]
    have hwh : (H.ss p.s).who = 0 := by simp [RP.enabled, h4] at he; exact he
    have hls := lock_ss (H := H) (w := p.who) (s := p.s) (by omega) hwh s
    have hold : (p.next 5).holds s ↔ p.holds s ∨ s = p.s := by
      have e0 : p.holds s ↔ s ∈ p.ss.take p.at_ := by
        constructor
        · rintro (h | h | h)
          · exact h.2
          · have := h.1; omega
          · have := h.1; omega
        · intro h; exact .inl ⟨h4, h⟩
      rw [e0, hss, ← take_succ_mem hat]
      rcases RP.next_cases p 5 with ⟨h, e⟩ | ⟨h, e⟩
      · rw [e]
        constructor
        · rintro (h | h | h)
          · exact h.2
          · have := h.1; simp at this; omega
          · have := h.1; simp at this; omega
        · intro h; exact .inl ⟨h4, h⟩
      · rw [e]
        have : p.ss.take (p.at_ + 1) = p.ss := List.take_of_length_le (by unfold RP.k at h; omega)
        rw [this]
        constructor
        · rintro (h | h | h)
          · have := h.1; simp at this
          · exact h.2
          · have := h.1; simp at this
        · intro h; exact .inr (.inl ⟨.inl rfl, h⟩)
    by_cases hsp : s = p.s
    · subst hsp
      rw [if_pos rfl] at hls
      have nh : ¬ p.holds p.s := by
        rintro (h | h | h)
        · have h' := h.2; rw [hss] at h'; exact nodup_take a.nd hat h'
        · have := h.1; omega
        · have := h.1; omega
      exact ⟨fun h => absurd h nh, fun _ => .inr ⟨hwh, rfl, hold.2 (.inr rfl), by rw [hls, hw], fun h => h, fun h => h, fun _ => rfl⟩⟩
    · rw [if_neg hsp] at hls
      exact triv _ _ hls ⟨fun h => (hold.1 h).resolve_right hsp, fun h => hold.2 (.inl h)⟩
  rw [if_neg h4]
  by_cases h6 : p.ph = 6
  · rw [if_pos h6]
    have e0 : p.holds s ↔ s ∈ p.ss := by
      constructor
      · rintro (h | h | h)
        · have := h.1; omega
        · exact h.2
        · have := h.1; omega
      · intro h; exact .inr (.inl ⟨.inr h6, h⟩)
    refine triv _ _ rfl ?_
    rw [e0]
    rcases RP.next_cases { p with seen := seenset p.seen p.s (H.ss p.s).book } 7 with ⟨h, e⟩ | ⟨h, e⟩
    · rw [e]
      constructor
      · rintro (h | h | h)
        · have := h.1; simp at this; omega
        · exact h.2
        · have := h.1; simp at this; omega
      · intro h; exact .inr (.inl ⟨.inr h6, h⟩)
    · rw [e]
      constructor
      · rintro (h | h | h)
        · have := h.1; simp at this
        · have := h.1; simp at this
        · simpa using h.2
      · intro h; exact .inr (.inr ⟨rfl, by simpa using h⟩)
  rw [if_neg h6]
  have h7 : p.ph = 7 := by omega
  have e0 : p.holds s ↔ s ∈ p.ss.drop p.at_ := by
    constructor
    · rintro (h | h | h)
      · have := h.1; omega
      · have := h.1; omega
      · exact h.2
    · intro h; exact .inr (.inr ⟨h7, h⟩)
  have hold : (if p.last then (p.next 8).answer else p.next 8).holds s ↔ s ∈ p.ss.drop (p.at_ + 1) := by
    rcases RP.next_cases p 8 with ⟨h, e⟩ | ⟨h, e⟩
    · have hl : p.last = false := by simp [RP.last, h]
      rw [hl, e]
      constructor
      · rintro (h | h | h)
        · have := h.1; simp at this; omega
        · have := h.1; simp at this; omega
        · exact h.2
      · intro h; exact .inr (.inr ⟨h7, h⟩)
    · have hl : p.last = true := by simp [RP.last]; omega
      rw [hl, e]
      have : p.ss.drop (p.at_ + 1) = [] := List.drop_eq_nil_iff.2 (by unfold RP.k at h; omega)
      rw [this]
      simp only [if_true, List.not_mem_nil, iff_false]
      exact RP.nh (by rw [answer_ph]; simp) (by rw [answer_ph]; simp) (by rw [answer_ph]; simp) (by rw [answer_ph]; simp)
  by_cases hsp : s = p.s
  · subst hsp
    have hm : p.holds p.s := e0.2 (by rw [hss]; exact (drop_mem hat _).2 (.inl rfl))
    refine ⟨fun _ hwho hd => .inr ⟨fun h => nodup_drop a.nd hat (by rw [← hss]; exact hold.1 h), ?_⟩, fun h => absurd hm h⟩
    have hls := unlock_ss (H := H) (w := p.who) (s := p.s) (by omega) (by rw [hw]; exact hwho) p.s
    rw [if_pos rfl] at hls
    rw [hls]
    have hq := hd.q fun h => h
    exact ⟨rfl, hd.e, hq.1, hq.2⟩
  · have hls : (H.unlock p.who p.s).ss s = H.ss s := by
      simp only [Hall.unlock]
      split
      · simp [Hall.put, sput, hsp, Hall.did]
      · rfl
    refine triv _ _ hls ?_
    rw [hold, e0, drop_mem hat, ← hss]
    simp [hsp]
end Go.Den
namespace Go.Den
open Go
set_option linter.unusedVariables false
set_option linter.unusedSimpArgs false
theorem kind_rng {x : OpD} (h : badB x = false) : 1 ≤ x.kind ∧ x.kind ≤ 9 := by
  unfold badB at h
  split at h
  · omega
  split at h
  · omega
  split at h
  · omega
  split at h
  · omega
  · simp at h; omega
/-- What is asked of a heeding. -/
structure HA (i : Nat) (p : HP) (c : Cfg) : Prop where
  w : p.who = i
  i8 : i < 8
  k6 : badB p.x = false → 6 ≤ p.x.kind
  s : p.s = (stripeOf p.x.user c.stripes).toNat
theorem HA.cl {i : Nat} {p : HP} {c : Cfg} (a : HA i p c) : clientB p.who = true := by
  have := a.w; have := a.i8
  simp [clientB]; omega
/-- What is asked of what a client knows of itself. -/
structure MA (p : HP) (m : Mine) (M : Tbl) : Prop where
  wt : (M.fd (M.stripe p.x.user)).watching p.who p.x.user = mhas m p.x.user
  ct : M.count p.who = m.length
theorem fed_ss (H : Hall) (w : Int) (s : Nat) (f : Feed) (s' : Nat) : (H.fed w s f).ss s' = if s' = s then { H.ss s with feed := f } else H.ss s' := by
  simp only [Hall.fed, Hall.put, sput]; rfl
/-- What a Watch or Unwatch makes of the table. -/
theorem do_watch {i : Nat} {p : HP} {m : Mine} {M : Tbl} {c : Cfg} (a : HA i p c) (hc : M.c = c) (ma : MA p m M) (ht : p.t = M.t) (hb : badB p.x = false) (h9 : p.x.kind ≠ 9) (h8 : p.x.kind ≠ 8) :
    (M.do_ p.who p.x).1 = (if p.wres m c = 0 then M.fed p.s (p.wfd (M.fd p.s)) else M) ∧ (M.do_ p.who p.x).2 = repE (p.wres m c) := by
  have hk := kind_rng hb
  have k6 := a.k6 hb
  have hs : p.s = M.stripe p.x.user := by rw [a.s, Tbl.stripe, hc]
  have hcl := a.cl
  unfold Tbl.do_
  rw [if_neg (by simp [hb, hcl]), if_neg (by omega), if_neg h8]
  cases htc : M.t.closed with
  | true =>
    have e : p.wres m c = 5 := by simp [HP.wres, ht, htc]
    simp [e]
  | false =>
    simp only [Bool.false_eq_true, if_false]
    by_cases h6 : p.x.kind = 6
    · rw [if_pos h6]
      unfold Tbl.watch
      rw [ma.wt, ma.ct, hc]
      by_cases hcc : mhas m p.x.user = false ∧ c.watches ≤ (m.length : Int)
      · have e : p.wres m c = 4 := by simp [HP.wres, ht, htc, h6, hcc.1, hcc.2]
        rw [if_pos hcc, e]; simp
      · have e : p.wres m c = 0 := by
          have h2 : ¬ (p.x.kind = 6 ∧ mhas m p.x.user = false ∧ c.watches ≤ (m.length : Int)) := fun h => hcc h.2
          unfold HP.wres; rw [ht, htc, if_neg (by simp), if_neg h2]
        rw [if_neg hcc, e, hs]
        simp [HP.wfd, h6]; rfl
    · have h7 : p.x.kind = 7 := by omega
      have e : p.wres m c = 0 := by
        have h2 : ¬ (p.x.kind = 6 ∧ mhas m p.x.user = false ∧ c.watches ≤ (m.length : Int)) := fun h => h6 h.1
        unfold HP.wres; rw [ht, htc, if_neg (by simp), if_neg h2]
      rw [if_neg h6, if_pos h7, e, hs]
      simp [HP.wfd, h7]; rfl
theorem drainTo_st (M : Tbl) (who : Int) (s : Nat) (hs : s < M.n) : (M.drainTo who M.n).st s = (M.bk s, (M.fd s).drain who) := by simp [Tbl.st, Tbl.drainTo, hs]
theorem hloc {i : Nat} {p : HP} {ms : Mine} {H : Hall} {M : Tbl} (g : HPG H.n p) (a : HA i p H.c) (ht : M.t = H.t) (hc : M.c = H.c) (hn : M.n = H.n)
    (ma : p.one = false → p.x.kind ≠ 8 → p.at_ = 1 → MA p ms M) (n : Int) {s : Nat} (hs8 : s < H.n) (he : p.enabled H = true) :
    Loc i (.h p) ((PR.h p).step ms H n).1 ms ((PR.h p).step ms H n).2.1 H ((PR.h p).step ms H n).2.2 M ((PR.h p).tb H M) s := by
  have hl := HP.lt_of_en he
  have hw := a.w
  have hcl := a.cl
  have e3 : (PR.h p).step ms H n = (.h (p.stp ms H n).1, (p.stp ms H n).2.1, (p.stp ms H n).2.2) := by simp [PR.step, HP.step, he]
  have etb : p.places = true → (PR.h p).tb H M = (M.do_ p.who p.x).1 := fun h => by simp [PR.tb, PR.enabled, PR.places, he, h, PR.bef]
  have etn : p.places = false → (PR.h p).tb H M = M := fun h => by simp [PR.tb, PR.places, h]
  rw [e3]
  have nm : ∀ (q : HP), ¬ (PR.h q).mid s := fun q h => h
  have n5 : ∀ (q : HP), ¬ (PR.h q).at5 := fun q h => h
  by_cases hb : badB p.x = true
  · have ho : p.one = true := by simp [HP.one, hb]
    have : (M.do_ p.who p.x).1 = M := by simp [Tbl.do_, hb]
    rw [etb (by simp [HP.places, ho]), this]
    simp only [HP.stp, hb, if_true]
    exact Loc.same rfl rfl ⟨fun h => by have h1 := h.1; simp [HP.one, hb] at h1, fun h => by have h1 := h.1; simp [HP.one, hb] at h1⟩ ⟨fun h => h.elim, fun h => h.elim⟩ (fun h => h.elim) (fun h => by have h1 := h.1; simp [HP.one, hb] at h1)
  have hb : badB p.x = false := by simpa using hb
  by_cases h9 : p.x.kind = 9
  · have ho : p.one = true := by simp [HP.one, h9]
    have : (M.do_ p.who p.x).1.st s = M.st s := by
      unfold Tbl.do_
      rw [if_neg (by simp [hb, hcl]), if_neg (by omega), if_neg (by omega)]
      split
      · rfl
      rw [if_neg (by omega), if_neg (by omega)]
      first | rfl | (rw [if_pos h9]; rfl)
    rw [etb (by simp [HP.places, ho])]
    simp only [HP.stp, hb, h9, Bool.false_eq_true, if_false, if_true]
    exact Loc.same rfl this ⟨fun h => by have h1 := h.1; simp [HP.one, h9] at h1, fun h => by have h1 := h.1; simp [HP.one, h9] at h1⟩ ⟨fun h => h.elim, fun h => h.elim⟩ (fun h => h.elim) (fun h => by have h1 := h.1; simp [HP.one, h9] at h1)
  have one : p.one = false := by simp [HP.one, hb, h9]
  have onq : ∀ q : HP, q.x = p.x → q.one = false := fun q h => by simp [HP.one, h, hb, h9]
  by_cases h8 : p.x.kind = 8
  · -- a Poll
    have hk := g.k
    have hst : p.steps = 3 * p.k + 1 := (HP.poll_of hb h8).2
    have hh : ∀ q : HP, q.x = p.x → (q.holds s ↔ s < q.at_ ∧ s < q.k ∧ q.at_ ≤ 2 * q.k + 1 + s) := fun q hq => by
      unfold HP.holds; rw [hq, if_pos h8]; simp [onq q hq]
    have hp : ∀ (q : HP) m x, q.x = p.x → q.pend m H.c s x = if q.k < q.at_ ∧ q.at_ ≤ q.k + 1 + s then (x.1, x.2.drain q.who) else x := fun q m x hq => by
      unfold HP.pend; rw [onq q hq, hq, if_neg (by simp), if_pos h8]
    have estp : p.stp ms H n = ((p.stpP H n).1, ms, (p.stpP H n).2) := by simp [HP.stp, hb, h8]
    rw [estp]
    dsimp only
    unfold HP.stpP
    by_cases hlk : p.at_ < p.k
    · have hpl : p.places = false := by simp [HP.places, one, h8]; omega
      rw [etn hpl, if_pos hlk]
      dsimp only
      have hwh : (H.ss p.at_).who = 0 := by
        have hnd : p.needs = p.at_ := by simp [HP.needs, one, h8, hlk]
        simp [HP.enabled, hnd] at he
        rcases he.2 with h | h
        · omega
        · exact h
      have hls := lock_ss (H := H) (w := p.who) (s := p.at_) (by omega) hwh s
      by_cases hss : s = p.at_
      · rw [if_pos hss] at hls
        refine ⟨fun h => ?_, fun _ => .inr ⟨by rw [hss]; exact hwh, rfl, (hh _ (by rfl)).2 (by dsimp only; omega), by rw [hls, hw, hss], nm _, n5 _, fun x => ?_⟩⟩
        · have := (hh p rfl).1 h; omega
        · show HP.pend _ _ _ _ _ = _
          rw [hp _ _ _ (by rfl), if_neg (by dsimp only; omega)]
      · rw [if_neg hss] at hls
        refine Loc.same hls rfl ?_ ⟨fun h => h.elim, fun h => h.elim⟩ (fun h => h.elim) fun _ x => ?_
        · show HP.holds _ _ ↔ HP.holds _ _
          rw [hh _ (by rfl), hh p rfl]; dsimp only; omega
        · show HP.pend _ _ _ _ _ = HP.pend _ _ _ _ _
          rw [hp _ _ _ (by rfl), hp p _ _ rfl, if_neg (by dsimp only; omega), if_neg (by omega)]
    rw [if_neg hlk]
    by_cases hk2 : p.at_ = p.k
    · have hpl : p.places = true := by simp [HP.places, one, h8, hk2]
      have hdo : (M.do_ p.who p.x).1 = M.drainTo p.who M.n := by
        unfold Tbl.do_
        rw [if_neg (by simp [hb, hcl]), if_neg (by omega), if_pos h8]; rfl
      rw [etb hpl, if_pos hk2, hdo]
      dsimp only
      refine ⟨fun _ hwho hd => .inl ⟨(hh _ (by rfl)).2 (by dsimp only; omega), hwho, ?_⟩, fun h => absurd ((hh p rfl).2 (by omega)) h⟩
      rw [drainTo_st _ _ _ (by omega)]
      have he' := hd.e
      simp only [PR.pend] at he'
      rw [hp p _ _ rfl, if_neg (by omega)] at he'
      refine ⟨?_, fun h => h.elim, fun h => hd.q h, fun h => h.elim⟩
      show _ = HP.pend _ _ _ _ _
      rw [hp _ _ _ (by rfl), if_pos (by dsimp only; omega)]
      simp only [Tbl.st, Prod.mk.injEq] at he'
      rw [he'.1, he'.2]; rfl
    rw [if_neg hk2]
    have hpl : p.places = false := by simp [HP.places, one, h8]; omega
    rw [etn hpl]
    by_cases hk3 : p.at_ ≤ 2 * p.k
    · rw [if_pos hk3]
      dsimp only
      have hfs := fed_ss H p.who (p.at_ - p.k - 1) ((H.ss (p.at_ - p.k - 1)).feed.drain p.who) s
      by_cases hss : s = p.at_ - p.k - 1
      · rw [if_pos hss, ← hss] at hfs
        refine ⟨fun _ hwho hd => .inl ⟨(hh _ (by rfl)).2 (by dsimp only; omega), ?_, ?_⟩, fun h => absurd ((hh p rfl).2 (by omega)) h⟩
        · show ((H.drain p.who (p.at_ - p.k - 1)).ss s).who = _
          rw [← hss]
          show ((H.fed p.who s ((H.ss s).feed.drain p.who)).ss s).who = _
          rw [hfs]; exact hwho
        · show Held _ _ _ _ ((H.drain p.who (p.at_ - p.k - 1)).ss s) _
          rw [← hss]
          show Held _ _ _ _ ((H.fed p.who s ((H.ss s).feed.drain p.who)).ss s) _
          rw [hfs]
          have he' := hd.e
          simp only [PR.pend] at he'
          rw [hp p _ _ rfl, if_pos (by omega)] at he'
          refine ⟨?_, fun h => h.elim, fun h => hd.q h, fun h => h.elim⟩
          show _ = HP.pend _ _ _ _ _
          rw [hp _ _ _ (by rfl), if_neg (by dsimp only; omega)]
          exact he'
      · rw [if_neg hss] at hfs
        refine Loc.same hfs rfl ?_ ⟨fun h => h.elim, fun h => h.elim⟩ (fun h => h.elim) fun _ x => ?_
        · show HP.holds _ _ ↔ HP.holds _ _
          rw [hh _ (by rfl), hh p rfl]; dsimp only; omega
        · show HP.pend _ _ _ _ _ = HP.pend _ _ _ _ _
          rw [hp _ _ _ (by rfl), hp p _ _ rfl]
          dsimp only
          by_cases hcc : p.k < p.at_ ∧ p.at_ ≤ p.k + 1 + s
          · rw [if_pos hcc, if_pos (by omega)]
          · rw [if_neg hcc, if_neg (by omega)]
    · rw [if_neg hk3]
      dsimp only
      by_cases hss : s = p.at_ - 2 * p.k - 1
      · refine ⟨fun _ hwho hd => .inr ⟨fun h => ?_, ?_⟩, fun h => absurd ((hh p rfl).2 (by omega)) h⟩
        · have := (hh _ (by rfl)).1 h
          dsimp only at this; omega
        · have hls := unlock_ss (H := H) (w := p.who) (s := p.at_ - 2 * p.k - 1) (by omega) (by rw [← hss, hw]; exact hwho) s
          rw [if_pos hss, ← hss] at hls
          show Free ((H.unlock p.who (p.at_ - 2 * p.k - 1)).ss s) _
          rw [← hss, hls]
          have he' := hd.e
          simp only [PR.pend] at he'
          rw [hp p _ _ rfl, if_neg (by omega)] at he'
          have hq := hd.q (nm _)
          exact ⟨rfl, he', hq.1, hq.2⟩
      · have hls : (H.unlock p.who (p.at_ - 2 * p.k - 1)).ss s = H.ss s := by
          simp only [Hall.unlock]
          split
          · simp [Hall.put, sput, hss, Hall.did]
          · rfl
        refine Loc.same hls rfl ?_ ⟨fun h => h.elim, fun h => h.elim⟩ (fun h => h.elim) fun _ x => ?_
        · show HP.holds _ _ ↔ HP.holds _ _
          rw [hh _ (by rfl), hh p rfl]; dsimp only; omega
        · show HP.pend _ _ _ _ _ = HP.pend _ _ _ _ _
          rw [hp _ _ _ (by rfl), hp p _ _ rfl, if_neg (by dsimp only; omega), if_neg (by omega)]
  -- a Watch or Unwatch
  have hst : p.steps = 4 := (HP.kind_of hb h9 h8).2
  have hh : ∀ q : HP, q.x = p.x → (q.holds s ↔ 1 ≤ q.at_ ∧ q.at_ ≤ 3 ∧ s = q.s) := fun q hq => by
    unfold HP.holds; rw [hq, if_neg h8]; simp [onq q hq]
  have hp : ∀ (q : HP) m x, q.x = p.x → q.pend m H.c s x = if q.at_ = 2 ∧ s = q.s ∧ q.wres m H.c = 0 then (x.1, q.wfd x.2) else x := fun q m x hq => by
    unfold HP.pend; rw [onq q hq, hq, if_neg (by simp), if_neg h8]
  have estp : p.stp ms H n = p.stpW ms H n := by simp [HP.stp, hb, h9, h8]
  rw [estp]
  unfold HP.stpW
  by_cases h0 : p.at_ = 0
  · have hpl : p.places = false := by simp [HP.places, one, h8]; omega
    rw [etn hpl, if_pos h0]
    dsimp only
    have hwh : (H.ss p.s).who = 0 := by
      have hnd : p.needs = p.s := by simp [HP.needs, one, h8, h0]
      simp [HP.enabled, hnd] at he
      rcases he.2 with h | h
      · omega
      · exact h
    have hls := lock_ss (H := H) (w := p.who) (s := p.s) (by omega) hwh s
    by_cases hss : s = p.s
    · rw [if_pos hss] at hls
      refine ⟨fun h => ?_, fun _ => .inr ⟨by rw [hss]; exact hwh, rfl, (hh _ (by rfl)).2 (by dsimp only; omega), by rw [hls, hw, hss], nm _, n5 _, fun x => ?_⟩⟩
      · have := (hh p rfl).1 h; omega
      · show HP.pend _ _ _ _ _ = _
        rw [hp _ _ _ (by rfl), if_neg (by dsimp only; omega)]
    · rw [if_neg hss] at hls
      refine Loc.same hls rfl ?_ ⟨fun h => h.elim, fun h => h.elim⟩ (fun h => h.elim) fun _ x => ?_
      · show HP.holds _ _ ↔ HP.holds _ _
        rw [hh _ (by rfl), hh p rfl]; dsimp only; omega
      · show HP.pend _ _ _ _ _ = HP.pend _ _ _ _ _
        rw [hp _ _ _ (by rfl), hp p _ _ rfl, if_neg (by dsimp only; omega), if_neg (by omega)]
  rw [if_neg h0]
  by_cases h1 : p.at_ = 1
  · have hpl : p.places = true := by simp [HP.places, one, h8, h1]
    rw [etb hpl, if_pos h1]
    have hdo := (do_watch (i := i) (p := { p with t := H.t }) (m := ms) (M := M) (c := H.c) ⟨a.w, a.i8, a.k6, a.s⟩ hc ⟨(ma one h8 h1).wt, (ma one h8 h1).ct⟩ ht.symm hb h9 h8).1
    dsimp only at hdo
    rw [hdo]
    dsimp only
    by_cases hss : s = p.s
    · refine ⟨fun _ hwho hd => .inl ⟨(hh _ (by rfl)).2 (by dsimp only; omega), hwho, ?_⟩, fun h => absurd ((hh p rfl).2 (by omega)) h⟩
      have he' := hd.e
      simp only [PR.pend] at he'
      rw [hp p _ _ rfl, if_neg (by omega)] at he'
      refine ⟨?_, fun h => h.elim, fun h => hd.q h, fun h => h.elim⟩
      show _ = HP.pend _ _ _ _ _
      rw [hp _ _ _ (by rfl)]
      dsimp only
      have hwr : ({ p with at_ := 2, t := H.t, placed := n } : HP).wres ms H.c = ({ p with t := H.t } : HP).wres ms H.c := rfl
      rw [hwr]
      by_cases hr : ({ p with t := H.t } : HP).wres ms H.c = 0
      · rw [if_pos hr, if_pos ⟨rfl, hss, hr⟩]
        simp only [Tbl.st, Prod.mk.injEq] at he'
        simp only [Tbl.st, Tbl.fed, bset, hss, if_true]
        rw [← hss, he'.1, he'.2]; rfl
      · rw [if_neg hr, if_neg (fun h => hr h.2.2)]
        exact he'
    · refine Loc.same rfl ?_ ?_ ⟨fun h => h.elim, fun h => h.elim⟩ (fun h => h.elim) fun hh' => ?_
      · split
        · simp [Tbl.st, Tbl.fed, bset, hss]
        · rfl
      · show HP.holds _ _ ↔ HP.holds _ _
        rw [hh _ (by rfl), hh p rfl]; dsimp only; omega
      · have := (hh p rfl).1 hh'; omega
  rw [if_neg h1]
  have hpl : p.places = false := by simp [HP.places, one, h8]; omega
  rw [etn hpl]
  by_cases h2 : p.at_ = 2
  · rw [if_pos h2]
    have key : ∀ (q : HP) (m' : Mine) (H' : Hall), q.x = p.x → q.s = p.s → q.at_ = 3 → (∀ s', H'.ss s' = if s' = p.s ∧ p.wres ms H.c = 0 then { H.ss p.s with feed := p.wfd (H.ss p.s).feed } else H.ss s') → Loc i (.h p) (.h q) ms m' H H' M M s := by
      intro q m' H' hq hqs hq3 hH
      have hH := hH s
      by_cases hss : s = p.s
      · refine ⟨fun _ hwho hd => .inl ⟨(hh _ hq).2 (by omega), ?_, ?_⟩, fun h => absurd ((hh p rfl).2 (by omega)) h⟩
        · rw [hH]; split
          · rename_i h; dsimp only; rw [← h.1]; exact hwho
          · exact hwho
        · have he' := hd.e
          simp only [PR.pend] at he'
          rw [hp p _ _ rfl] at he'
          rw [hH]
          by_cases hr : p.wres ms H.c = 0
          · rw [if_pos ⟨h2, hss, hr⟩] at he'
            rw [if_pos ⟨hss, hr⟩, ← hss]
            refine ⟨?_, fun h => h.elim, fun h => hd.q h, fun h => h.elim⟩
            show _ = HP.pend _ _ _ _ _
            rw [hp _ _ _ hq, if_neg (by omega)]
            exact he'
          · rw [if_neg (fun h => hr h.2.2)] at he'
            rw [if_neg (fun h => hr h.2)]
            refine ⟨?_, fun h => h.elim, fun h => hd.q h, fun h => h.elim⟩
            show _ = HP.pend _ _ _ _ _
            rw [hp _ _ _ hq, if_neg (by omega)]
            exact he'
      · rw [if_neg (fun h => hss h.1)] at hH
        refine Loc.same hH rfl ?_ ⟨fun h => h.elim, fun h => h.elim⟩ (fun h => h.elim) fun hh' => ?_
        · show HP.holds _ _ ↔ HP.holds _ _
          rw [hh _ hq, hh p rfl, hqs]; omega
        · have := (hh p rfl).1 hh'; omega
    by_cases hcl' : p.t.closed = true
    · rw [if_pos hcl']
      exact key _ _ _ rfl rfl rfl fun s' => by
        have : ¬ p.wres ms H.c = 0 := by simp [HP.wres, hcl']
        rw [if_neg (fun h => this h.2)]
    rw [if_neg hcl']
    by_cases hcc : p.x.kind = 6 ∧ mhas ms p.x.user = false ∧ H.c.watches ≤ (ms.length : Int)
    · rw [if_pos hcc]
      exact key _ _ _ rfl rfl rfl fun s' => by
        have : ¬ p.wres ms H.c = 0 := by simp [HP.wres, hcl', hcc.1, hcc.2.1, hcc.2.2]
        rw [if_neg (fun h => this h.2)]
    · rw [if_neg hcc]
      have hr : p.wres ms H.c = 0 := by
        unfold HP.wres; rw [if_neg hcl', if_neg hcc]
      exact key _ _ _ rfl rfl rfl fun s' => by
        unfold Hall.watch
        rw [fed_ss]
        by_cases hs' : s' = p.s
        · have hx : s' = p.s ∧ p.wres ms H.c = 0 := ⟨hs', hr⟩
          simp only [if_pos hs', if_pos hx, HP.wfd]
        · have hx : ¬ (s' = p.s ∧ p.wres ms H.c = 0) := fun h => hs' h.1
          simp only [if_neg hs', if_neg hx]
  rw [if_neg h2]
  dsimp only
  have h3 : p.at_ = 3 := by omega
  by_cases hss : s = p.s
  · refine ⟨fun _ hwho hd => .inr ⟨fun h => ?_, ?_⟩, fun h => absurd ((hh p rfl).2 (by omega)) h⟩
    · have := (hh _ (by rfl)).1 h
      dsimp only at this; omega
    · have hls := unlock_ss (H := H) (w := p.who) (s := p.s) (by omega) (by rw [← hss, hw]; exact hwho) s
      rw [if_pos hss] at hls
      rw [hls, ← hss]
      have he' := hd.e
      simp only [PR.pend] at he'
      rw [hp p _ _ rfl, if_neg (by omega)] at he'
      have hq := hd.q (nm _)
      exact ⟨rfl, he', hq.1, hq.2⟩
  · have hls : (H.unlock p.who p.s).ss s = H.ss s := by
      simp only [Hall.unlock]
      split
      · simp [Hall.put, sput, hss, Hall.did]
      · rfl
    refine Loc.same hls rfl ?_ ⟨fun h => h.elim, fun h => h.elim⟩ (fun h => h.elim) fun _ x => ?_
    · show HP.holds _ _ ↔ HP.holds _ _
      rw [hh _ (by rfl), hh p rfl]; dsimp only; omega
    · show HP.pend _ _ _ _ _ = HP.pend _ _ _ _ _
      rw [hp _ _ _ (by rfl), hp p _ _ rfl, if_neg (by dsimp only; omega), if_neg (by omega)]
end Go.Den
namespace Go.Den
open Go
set_option linter.unusedVariables false
set_option linter.unusedSimpArgs false
theorem TS.take {m : Nat} {M : Tbl} (x : TS m M) : TS m M.take := ⟨x.rt, x.cw, x.nn, x.bk, x.fd, x.tn, addU_rng x.ts (by simp [U64])⟩
theorem TS.set {m : Nat} {M : Tbl} (x : TS m M) {s : Nat} {b : Book} {f : Feed} (hb : BkM m b) (hf : FdM m f) : TS m { M with bk := bset M.bk s b, fd := bset M.fd s f } :=
  ⟨x.rt, x.cw, x.nn, fun t ht => by simp only [bset]; split; exact hb; exact x.bk t ht, fun t ht => by simp only [bset]; split; exact hf; exact x.fd t ht, x.tn, x.ts⟩
theorem TS.fed {m : Nat} {M : Tbl} (x : TS m M) {s : Nat} {f : Feed} (hf : FdM m f) : TS m (M.fed s f) :=
  ⟨x.rt, x.cw, x.nn, x.bk, fun t ht => by simp only [Tbl.fed, bset]; split; exact hf; exact x.fd t ht, x.tn, x.ts⟩
theorem TS.sweep {m : Nat} {M : Tbl} (x : TS m M) (s : Int) : TS m (M.sweep s) := by
  unfold Tbl.sweep
  split
  · rename_i h
    have hs : s.toNat < M.n := by omega
    exact x.take.set ((x.bk _ hs).sweepTo _ _ (Nat.le_refl _)) ((x.fd _ hs).tell _ _)
  · exact x
theorem TS.write {m : Nat} {M : Tbl} (x : TS m M) {o : OpD} (ow : OpW o) : TS (m + 1) (M.write o).1 := by
  have y := x.mono (Nat.le_succ m)
  have hs := x.stripe o.user
  unfold Tbl.write
  split
  · exact y.take
  · exact y.take.set ((x.bk _ hs).write ow x.tn _) ((y.fd _ hs).tell _ _)
theorem TS.do_ {m : Nat} {M : Tbl} (x : TS m M) (who : Int) {o : OpD} (ow : OpW o) : TS (m + 1) (M.do_ who o).1 := by
  have y := x.mono (Nat.le_succ m)
  have hs := x.stripe o.user
  unfold Tbl.do_
  split
  · exact y
  split
  · exact x.write ow
  split
  · exact ⟨y.rt, y.cw, y.nn, y.bk, fun t ht => by simp only [Tbl.poll, Tbl.drainTo]; split; exact (y.fd t ht).drain _; exact y.fd t ht, y.tn, y.ts⟩
  split
  · exact y
  split
  · unfold Tbl.watch
    split
    · exact y
    · exact y.fed ((x.fd _ hs).watch _ _ ow.s1)
  split
  · exact y.fed ((x.fd _ hs).unwatch _ _ ow.s1)
  split
  · exact ⟨y.rt, y.cw, y.nn, y.bk, y.fd, y.tn, y.ts⟩
  · exact y
def PR.owd : PR → Prop
  | .w p => ∀ o, p.k = .op o → OpW o
  | .r _ => True
  | .h p => OpW p.x
theorem TS.bef {m : Nat} {M : Tbl} (x : TS m M) {p : PR} (h : p.owd) : TS (m + 1) (p.bef M).1 := by
  have y := x.mono (Nat.le_succ m)
  cases p with
  | w p =>
    simp only [PR.bef]
    cases hk : p.k with
    | bad => exact y
    | op o => exact x.write (h o hk)
    | sweep => exact y.sweep _
  | r p => exact y
  | h p => exact x.do_ _ h
theorem TS.tb {m : Nat} {M : Tbl} (x : TS m M) {p : PR} {H : Hall} (h : p.owd) : TS (m + 1) (p.tb H M) := by
  unfold PR.tb
  split
  · exact x.bef h
  · exact x.mono (Nat.le_succ m)
def allWs (M : Tbl) (i : Nat) : List ByteArray := (List.range M.n).flatMap fun s => wsOf (M.fd s).ws i
structure WsI (M : Tbl) (e : Nat → Mine) : Prop where
  pm : ∀ i, i < 8 → (allWs M i).Perm (e i)
  lo : ∀ s i u, s < M.n → i < 8 → u ∈ wsOf (M.fd s).ws i → M.stripe u = s
theorem sum_map_len {α β : Type} (l : List α) (f : α → List β) : (l.map fun a => (f a).length).sum = (l.flatMap f).length := by
  induction l with
  | nil => rfl
  | cons a l ih => rw [List.map_cons, List.sum_cons, List.flatMap_cons, List.length_append, ih]
theorem WsI.count {M : Tbl} {e : Nat → Mine} (x : WsI M e) {i : Nat} (hi : i < 8) : M.count i = (e i).length := by
  rw [← (x.pm i hi).length_eq]
  unfold allWs Tbl.count
  rw [← sum_map_len]
  congr 1
  apply List.map_congr_left
  intro s _
  have hc : clientB (i : Int) = true := by simp [clientB]; omega
  simp [Feed.count, hc, wsOf]
theorem WsI.watching {M : Tbl} {e : Nat → Mine} {m : Nat} (x : WsI M e) (ts : TS m M) {i : Nat} (hi : i < 8) (u : ByteArray) : (M.fd (M.stripe u)).watching i u = mhas (e i) u := by
  have hs := ts.stripe u
  have hc : clientB (i : Int) = true := by simp [clientB]; omega
  unfold Feed.watching
  rw [hc, Bool.true_and, Bool.eq_iff_iff, ← wsOf_mem (ts.fd _ hs).so, mhas_iff, ← (x.pm i hi).mem_iff]
  unfold allWs
  rw [List.mem_flatMap]
  constructor
  · intro h; exact ⟨M.stripe u, List.mem_range.2 hs, h⟩
  · rintro ⟨s, h1, h2⟩
    have := x.lo s i u (List.mem_range.1 h1) hi h2
    rw [this]; exact h2
theorem WsI.same {M M' : Tbl} {e e' : Nat → Mine} (x : WsI M e) (hn : M'.n = M.n) (hc : M'.c = M.c) (hw : ∀ s, s < M.n → (M'.fd s).ws = (M.fd s).ws) (he : ∀ i, i < 8 → e' i = e i) : WsI M' e' := by
  have ha : ∀ i, allWs M' i = allWs M i := fun i => by
    unfold allWs; rw [hn]
    rw [List.flatMap_def, List.flatMap_def]
    congr 1
    exact List.map_congr_left fun s hs => by rw [hw s (by simpa using hs)]
  refine ⟨fun i hi => by rw [ha, he i hi]; exact x.pm i hi, fun s i u hs hi hu => ?_⟩
  rw [hw s (by omega)] at hu
  have := x.lo s i u (by omega) hi hu
  unfold Tbl.stripe at this ⊢
  rw [hc]; exact this
theorem tell_ws (f : Feed) (l : List Chg) (seq : Int) : (f.tell l seq).ws = f.ws := by
  unfold Feed.tell
  induction l generalizing f with
  | nil => rfl
  | cons c l ih => rw [List.foldl_cons, ih, tell1_ws]
theorem drain_ws (f : Feed) (who : Int) : (f.drain who).ws = f.ws := by unfold Feed.drain; split <;> rfl
theorem range_split {n s : Nat} (hs : s < n) : List.range n = List.range s ++ s :: (List.range (n - s - 1)).map (· + (s + 1)) := by
  have h1 : n = s + (1 + (n - s - 1)) := by omega
  rw [h1, List.range_add]
  congr 1
  rw [List.range_add]
  simp only [List.range_one, List.map_append, List.map_cons, List.map_nil, Nat.add_zero, List.map_map, List.singleton_append]
  rw [show s + (1 + (n - s - 1)) - s - 1 = n - s - 1 by omega]
  congr 1
  apply List.map_congr_left
  intro k _
  simp only [Function.comp]; omega
theorem flatMap_perm {β : Type} {n s : Nat} (hs : s < n) {f g : Nat → List β} (h : ∀ k, k ≠ s → (g k).Perm (f k)) (x y : List β) (hxy : (x ++ g s).Perm (y ++ f s)) : (x ++ (List.range n).flatMap g).Perm (y ++ (List.range n).flatMap f) := by
  have hl : ∀ l : List Nat, s ∉ l → (l.flatMap g).Perm (l.flatMap f) := fun l hl => by
    induction l with
    | nil => exact List.Perm.refl _
    | cons a l ih =>
      simp only [List.mem_cons, not_or] at hl
      simp only [List.flatMap_cons]
      exact (h a (Ne.symm hl.1)).append (ih hl.2)
  rw [range_split hs]
  simp only [List.flatMap_append, List.flatMap_cons]
  have h1 := hl (List.range s) (by simp)
  have h2 := hl ((List.range (n - s - 1)).map (· + (s + 1))) (by simp; omega)
  generalize (List.range s).flatMap g = A at *
  generalize (List.range s).flatMap f = A' at *
  generalize ((List.range (n - s - 1)).map (· + (s + 1))).flatMap g = B at *
  generalize ((List.range (n - s - 1)).map (· + (s + 1))).flatMap f = B' at *
  have e1 : (x ++ (A ++ (g s ++ B))).Perm ((x ++ g s) ++ (A ++ B)) := by
    rw [List.append_assoc]
    refine List.Perm.append_left x ?_
    rw [← List.append_assoc, ← List.append_assoc]
    exact (List.perm_append_comm).append_right B
  have e2 : ((y ++ f s) ++ (A' ++ B')).Perm (y ++ (A' ++ (f s ++ B'))) := by
    rw [List.append_assoc]
    refine List.Perm.append_left y ?_
    rw [← List.append_assoc, ← List.append_assoc]
    exact (List.perm_append_comm).append_right B'
  exact (e1.trans (hxy.append (h1.append h2))).trans e2
/-- What a Watch or Unwatch makes of whom clients watch. -/
theorem wsOf_watch {f : Feed} (so : SrtK (keysL f.ws)) (ms : ∀ x ∈ f.ws, 0 ≤ x.2 ∧ x.2 < 4294967296) {w j : Nat} (hw : w < 8) (hj : j < 8) (u : ByteArray) :
    (wsOf (f.watch w u).ws j).Perm (if j = w then (wsOf f.ws j).filter (fun k => !decide (k = u)) ++ [u] else wsOf f.ws j) := by
  have hc : clientB (w : Int) = true := by simp [clientB]; omega
  obtain ⟨m0, m1⟩ := valL_rng (u := u) ms
  have e0 := wsOf_self so u j
  have e1 : wsOf (f.watch w u).ws j = wsOf (putB f.ws u (mor (valL 0 f.ws u) w)) j := by simp [Feed.watch, hc]
  rw [e1]
  refine (wsOf_put so u _ j).trans ?_
  rw [mbit_mor m0 m1 hw hj]
  by_cases h : j = w
  · have e2 : (wsOf (delB f.ws u) j).filter (fun k => !decide (k = u)) = wsOf (delB f.ws u) j := List.filter_eq_self.2 fun k hk => by
      have : ¬ k = u := fun h => wsOf_del_not (h ▸ hk)
      simp [this]
    have e3 := e0.filter (fun k => !decide (k = u))
    rw [List.filter_append, e2] at e3
    have e4 : (if mbit (valL 0 f.ws u) j = true then [u] else []).filter (fun k => !decide (k = u)) = [] := by split <;> simp
    rw [e4, List.nil_append] at e3
    simp only [h, decide_true, Bool.or_true, if_true]
    rw [h] at e3
    exact (List.perm_append_comm).trans (e3.symm.append_right [u])
  · simp only [h, decide_false, Bool.or_false, if_false]
    exact e0.symm
theorem wsOf_unwatch {f : Feed} (so : SrtK (keysL f.ws)) (ms : ∀ x ∈ f.ws, 0 ≤ x.2 ∧ x.2 < 4294967296) {w j : Nat} (hw : w < 8) (hj : j < 8) (u : ByteArray) :
    (wsOf (f.unwatch w u).ws j).Perm (if j = w then (wsOf f.ws j).filter (fun k => !decide (k = u)) else wsOf f.ws j) := by
  have hc : clientB (w : Int) = true := by simp [clientB]; omega
  obtain ⟨m0, m1⟩ := valL_rng (u := u) ms
  have e0 := wsOf_self so u j
  have e2 : (wsOf (delB f.ws u) j).filter (fun k => !decide (k = u)) = wsOf (delB f.ws u) j := List.filter_eq_self.2 fun k hk => by
    have : ¬ k = u := fun h => wsOf_del_not (h ▸ hk)
    simp [this]
  have e3 := e0.filter (fun k => !decide (k = u))
  rw [List.filter_append, e2] at e3
  have e4 : (if mbit (valL 0 f.ws u) j = true then [u] else []).filter (fun k => !decide (k = u)) = [] := by split <;> simp
  rw [e4, List.nil_append] at e3
  have main : ∀ ws' : List (ByteArray × Int), (wsOf ws' j).Perm ((if mbit (mclr (valL 0 f.ws u) w) j then [u] else []) ++ wsOf (delB f.ws u) j) → (wsOf ws' j).Perm (if j = w then (wsOf f.ws j).filter (fun k => !decide (k = u)) else wsOf f.ws j) := fun ws' h => by
    rw [mbit_mclr m0 m1 hw hj] at h
    by_cases hjw : j = w
    · rw [if_pos hjw]
      simp only [hjw, decide_true, Bool.not_true, Bool.and_false, Bool.false_eq_true, if_false, List.nil_append] at h
      rw [hjw] at e3 ⊢
      exact h.trans e3.symm
    · rw [if_neg hjw]
      simp only [hjw, decide_false, Bool.not_false, Bool.and_true] at h
      exact h.trans e0.symm
  unfold Feed.unwatch
  simp only [hc, true_and]
  by_cases hv : valL 0 f.ws u = 0
  · simp only [hv, ne_eq, not_true_eq_false, if_false]
    split
    · rw [hv, mbit_zero] at e0
      simp only [Bool.false_eq_true, if_false, List.nil_append] at e0
      exact e0.trans e3.symm
    · exact List.Perm.refl _
  · simp only [ne_eq, hv, not_false_eq_true, if_true]
    split
    · rename_i h0
      refine main _ ?_
      rw [h0, mbit_zero]; simp
    · exact main _ (wsOf_put so u _ j)
theorem WsI.put {M : Tbl} {e e' : Nat → Mine} {m : Nat} (x : WsI M e) (ts : TS m M) {p : HP} {w : Nat} (hw : w < 8) (hp : p.who = w) (hs : p.s = M.stripe p.x.user)
    (he : e' w = miset (e w) p.x.user (decide (p.x.kind = 6))) (ho : ∀ j, j ≠ w → e' j = e j) : WsI (M.fed p.s (p.wfd (M.fd p.s))) e' := by
  have hsn : p.s < M.n := by rw [hs]; exact ts.stripe _
  have fm := ts.fd p.s hsn
  obtain ⟨u, hu⟩ : ∃ u, p.x.user = u := ⟨_, rfl⟩
  have hwf : p.wfd (M.fd p.s) = if decide (p.x.kind = 6) then (M.fd p.s).watch w u else (M.fd p.s).unwatch w u := by unfold HP.wfd; rw [hp, hu]
  have key : ∀ j, j < 8 → (wsOf (p.wfd (M.fd p.s)).ws j).Perm (if j = w then (wsOf (M.fd p.s).ws j).filter (fun k => !decide (k = u)) ++ (if decide (p.x.kind = 6) then [u] else []) else wsOf (M.fd p.s).ws j) := fun j hj => by
    rw [hwf]
    cases hk : decide (p.x.kind = 6) with
    | true => simpa using wsOf_watch fm.so fm.ms hw hj u
    | false => simpa using wsOf_unwatch fm.so fm.ms hw hj u
  have hfd : ∀ s, s ≠ p.s → (M.fed p.s (p.wfd (M.fd p.s))).fd s = M.fd s := fun s h => by simp [Tbl.fed, bset, h]
  have hfs : (M.fed p.s (p.wfd (M.fd p.s))).fd p.s = p.wfd (M.fd p.s) := by simp [Tbl.fed, bset]
  refine ⟨fun j hj => ?_, fun s j v hs' hj hv => ?_⟩
  · have kj := key j hj
    by_cases hjw : j = w
    · subst hjw
      rw [if_pos rfl] at kj
      rw [he, hu]
      unfold miset
      -- the others have none of this user's
      have hno : ∀ s, s < M.n → s ≠ p.s → (wsOf (M.fd s).ws j).filter (fun k => !decide (k = u)) = wsOf (M.fd s).ws j := fun s h1 h2 => List.filter_eq_self.2 fun k hk => by
        have : ¬ k = u := fun h => by
          subst h
          have := x.lo s j k h1 hj hk
          rw [← hu, ← hs] at this
          exact h2 this.symm
        simp [this]
      have h1 := (x.pm j hj).filter (fun k => !decide (k = u))
      refine List.Perm.trans ?_ (h1.append_right _)
      unfold allWs
      rw [List.filter_flatMap]
      have := flatMap_perm (s := p.s) hsn (f := fun s => (wsOf (M.fd s).ws j).filter (fun k => !decide (k = u))) (g := fun s => if s < M.n then wsOf ((M.fed p.s (p.wfd (M.fd p.s))).fd s).ws j else (wsOf (M.fd s).ws j).filter (fun k => !decide (k = u)))
        (fun k hk => by
          by_cases hkn : k < M.n
          · simp only [if_pos hkn]; rw [hfd k hk, hno k hkn hk]
          · simp only [if_neg hkn]; exact List.Perm.refl _) [] (if decide (p.x.kind = 6) then [u] else [])
        (by
          simp only [if_pos hsn]; rw [hfs, List.nil_append]
          exact kj.trans List.perm_append_comm)
      rw [List.nil_append] at this
      have e1 : (List.range M.n).flatMap (fun s => if s < M.n then wsOf ((M.fed p.s (p.wfd (M.fd p.s))).fd s).ws j else (wsOf (M.fd s).ws j).filter (fun k => !decide (k = u))) = (List.range M.n).flatMap fun s => wsOf ((M.fed p.s (p.wfd (M.fd p.s))).fd s).ws j := by
        rw [List.flatMap_def, List.flatMap_def]
        congr 1
        exact List.map_congr_left fun s hs => by rw [if_pos (by simpa using hs)]
      rw [e1] at this
      exact this.trans List.perm_append_comm
    · rw [if_neg hjw] at kj
      rw [ho j hjw]
      refine List.Perm.trans ?_ (x.pm j hj)
      have := flatMap_perm (s := p.s) hsn (f := fun s => wsOf (M.fd s).ws j) (g := fun s => wsOf ((M.fed p.s (p.wfd (M.fd p.s))).fd s).ws j) (fun k hk => by rw [hfd k hk]) [] [] (by rw [hfs]; exact kj)
      rw [List.nil_append, List.nil_append] at this
      exact this
  · show M.stripe v = s
    have hs' : s < M.n := hs'
    by_cases hsp : s = p.s
    · subst hsp
      rw [hfs] at hv
      have hv := (key j hj).mem_iff.1 hv
      split at hv
      · rcases List.mem_append.1 hv with hv | hv
        · exact x.lo _ j v hs' hj (List.mem_filter.1 hv).1
        · split at hv
          · simp at hv; rw [hv, ← hu, hs]
          · simp at hv
      · exact x.lo _ j v hs' hj hv
    · rw [hfd s hsp] at hv
      exact x.lo s j v hs' hj hv
end Go.Den
namespace Go.Den
open Go
set_option linter.unusedVariables false
set_option linter.unusedSimpArgs false
/-- What is asked of a process. -/
def PA (n i : Nat) (c : Cfg) : PR → Prop
  | .w p => WG n p ∧ WA i p c
  | .r p => RK n p ∧ RA i p
  | .h p => HPG n p ∧ HA i p c
structure LI (W : Wd) (M : Tbl) : Prop where
  t : M.t = W.H.t
  c : M.c = W.H.c
  n : M.n = W.H.n
  st : ∀ s, s < W.H.n → Free (W.H.ss s) (M.st s) ∨ ∃ i p, W.ps i = some p ∧ p.holds s ∧ (W.H.ss s).who = i + 1 ∧ Held p (W.ms i) W.H.c s (W.H.ss s) (M.st s)
  own : ∀ i p s, s < W.H.n → W.ps i = some p → p.holds s → (W.H.ss s).who = i + 1
  pa : ∀ i p, W.ps i = some p → PA W.H.n i W.H.c p
  ws : WsI M W.em
theorem bset_same {α : Type} (f : Nat → α) (i : Nat) (x : α) : bset f i x i = x := by simp [bset]
theorem bset_ne {α : Type} {f : Nat → α} {i j : Nat} {x : α} (h : j ≠ i) : bset f i x j = f j := by simp [bset, h]
theorem bset_id {α : Type} (f : Nat → α) (i : Nat) : bset f i (f i) = f := by
  funext j; unfold bset; split
  · rename_i h; rw [h]
  · rfl
theorem pstep_off {p : PR} {m : Mine} {H : Hall} {n : Int} (h : p.enabled H = false) : p.step m H n = (p, m, H) := by
  cases p with
  | w p => have h : p.enabled H = false := h
           simp [PR.step, WP.step, h]
  | r p => have h : p.enabled H = false := h
           simp [PR.step, RP.step, h]
  | h p => have h : p.enabled H = false := h
           simp [PR.step, HP.step, h]
theorem pstep_n {k i : Nat} {p : PR} {m : Mine} {H : Hall} (hs : HS k H) (n : Int) (hk : k < 100000) (g : PA H.n i H.c p) : (p.step m H n).2.2.n = H.n ∧ (p.step m H n).2.2.c = H.c ∧ HS (k + 1) (p.step m H n).2.2 ∧ PA H.n i H.c (p.step m H n).1 := by
  cases p with
  | w p =>
    obtain ⟨k1, k2, k3⟩ := wstep_k p H n
    obtain ⟨n1, n2⟩ := wstep_n p H n
    exact ⟨n1, n2, hs.wstep g.1 n, g.1.step hs n, by rw [show (p.step H n).1.who = p.who from k2]; exact g.2.w, (g.1.step hs n).a, fun x hx => by rw [k3]; exact g.2.s x (by rw [← k1]; exact hx)⟩
  | r p =>
    have hg := hs.g hk
    obtain ⟨k1, k2, k3, k4, k5⟩ := g.1.step hg n (by have := hs.ac; omega)
    refine ⟨k3, k4, ?_, by have := k1; exact k1, ?_⟩
    · show HS (k + 1) (p.step H n).2
      unfold RP.step
      split
      · exact hs.mono (by omega)
      rename_i hen
      split
      · exact hs.mono (by omega)
      rename_i hz
      have h8 : p.ph ≠ 8 := fun h => by simp [RP.enabled, h] at hen
      have hat := g.1.at_ h8 hz
      have hss : p.s < H.n := by rw [RP.s_lt hat]; exact g.1.ss _ (List.getElem_mem _)
      unfold RP.go
      split
      · exact hs.epoch _ _
      split
      · exact hs.snap _ _
      split
      · exact hs.look _
      split
      · exact hs.look _
      split
      · exact hs.epoch _ _
      split
      · exact hs.lock hss g.1.wr.2
      split
      · exact hs.read _ _
      · exact hs.unlock hss
    · show RA i (p.step H n).1
      have hkeep : (p.step H n).1.who = p.who ∧ (p.step H n).1.ss = p.ss := by
        unfold RP.step
        split
        · exact ⟨rfl, rfl⟩
        split
        · exact ⟨rfl, rfl⟩
        have hnx : ∀ (q : RP) ph, (q.next ph).who = q.who ∧ (q.next ph).ss = q.ss := fun q ph => by unfold RP.next; split <;> exact ⟨rfl, rfl⟩
        have han : ∀ q : RP, q.answer.who = q.who ∧ q.answer.ss = q.ss := fun q => by unfold RP.answer; split <;> exact ⟨rfl, rfl⟩
        have hju : ∀ q : RP, q.judge.who = q.who ∧ q.judge.ss = q.ss := fun q => by
          unfold RP.judge
          split
          · exact han q
          split <;> exact ⟨rfl, rfl⟩
        unfold RP.go
        split
        · exact hnx _ _
        split
        · exact hnx _ _
        split
        · exact ⟨rfl, rfl⟩
        split
        · exact ⟨rfl, rfl⟩
        split
        · dsimp only; split
          · exact ⟨(hju _).1.trans (hnx _ _).1, (hju _).2.trans (hnx _ _).2⟩
          · exact hnx _ _
        split
        · exact hnx _ _
        split
        · exact hnx _ _
        · dsimp only; split
          · exact ⟨(han _).1.trans (hnx _ _).1, (han _).2.trans (hnx _ _).2⟩
          · exact hnx _ _
      exact ⟨by rw [hkeep.1]; exact g.2.w, by rw [hkeep.2]; exact g.2.nd⟩
  | h p =>
    obtain ⟨k1, k2, k3, k4⟩ := hstep_k p m H n
    obtain ⟨n1, n2⟩ := hstep_n p m H n
    exact ⟨n1, n2, hs.hstep g.1 m n, g.1.step m n, by rw [show (p.step m H n).1.who = p.who from k1]; exact g.2.w, g.2.i8, fun h => by rw [show (p.step m H n).1.x = p.x from k2] at h ⊢; exact g.2.k6 h, by rw [show (p.step m H n).1.s = p.s from k4, show (p.step m H n).1.x = p.x from k2]; exact g.2.s⟩
theorem tb_n {i : Nat} {p : PR} {H : Hall} {M : Tbl} (hn : M.n = H.n) (g : PA H.n i H.c p) : (p.tb H M).n = M.n ∧ (p.tb H M).c = M.c := by
  unfold PR.tb
  split
  · cases p with
    | w p =>
      cases hk : p.k with
      | bad => simp [PR.bef, hk, WK.bef]
      | op x => have := bef_t (k := p.k) (s := p.s) (M := M) (by simp [hk, WK.isBad]) (by rw [hn]; exact g.1.s); exact ⟨this.2.2, this.2.1⟩
      | sweep => have := bef_t (k := p.k) (s := p.s) (M := M) (by simp [hk, WK.isBad]) (by rw [hn]; exact g.1.s); exact ⟨this.2.2, this.2.1⟩
    | r p => exact ⟨rfl, rfl⟩
    | h p =>
      simp only [PR.bef]
      unfold Tbl.do_
      split
      · exact ⟨rfl, rfl⟩
      split
      · unfold Tbl.write; split <;> exact ⟨rfl, rfl⟩
      split
      · exact ⟨rfl, rfl⟩
      split
      · exact ⟨rfl, rfl⟩
      split
      · unfold Tbl.watch; split <;> exact ⟨rfl, rfl⟩
      split
      · exact ⟨rfl, rfl⟩
      split <;> exact ⟨rfl, rfl⟩
  · exact ⟨rfl, rfl⟩
/-- The time: the hall's, and the table's. -/
theorem tb_t {i : Nat} {p : PR} {m : Mine} {H : Hall} {M : Tbl} (ht : M.t = H.t) (hn : M.n = H.n) (g : PA H.n i H.c p) (n : Int) : (p.tb H M).t = (p.step m H n).2.2.t := by
  cases hen : p.enabled H with
  | false =>
    rw [pstep_off hen]
    simp [PR.tb, hen, ht]
  | true =>
    cases p with
    | w p =>
      have he : p.enabled H = true := hen
      by_cases hb : p.k.isBad = true
      · have : p.k = .bad := by cases hk : p.k <;> simp [hk, WK.isBad] at hb ⊢
        simp [PR.tb, PR.bef, this, WK.bef, PR.step, WP.step, he, hb, ht]
        simp [this, WK.isBad, ht]
      have hb : p.k.isBad = false := by simpa using hb
      have e3 : ((PR.w p).step m H n).2.2 = (p.stp H n).2 := by simp [PR.step, WP.step, he, hb]
      rw [e3]
      by_cases h2 : p.at_ = 2
      · have e4 : (PR.w p).tb H M = (p.k.bef p.s M).1 := by simp [PR.tb, PR.places, WP.places, hen, h2, PR.bef]
        rw [e4, (bef_t hb (by rw [hn]; exact g.1.s)).1, stp2 H n h2]
        simp [Tbl.take, Hall.take, Hall.did, ht]
      · have e4 : (PR.w p).tb H M = M := by simp [PR.tb, PR.places, WP.places, hb, h2]
        rw [e4, ht]
        by_cases h0 : p.at_ = 0
        · rw [stp0 H n h0]; exact (lock_t _ _ _).symm
        by_cases h1 : p.at_ = 1
        · rw [stp1 H n h1]; rfl
        by_cases h3 : p.at_ = 3
        · rw [stp3 H n h3]; exact (run_ss p.k H p.who p.s p.t p.s).2.2.2.2.symm
        by_cases h4 : p.at_ = 4
        · rw [stp4 H n h4]; rfl
        by_cases h5 : p.at_ = 5
        · rw [stp5 H n h5]; rfl
        · rw [stp6 H n (by have := enabled_at he; omega)]; exact (unlock_t _ _ _).symm
    | r p =>
      have e4 : (PR.r p).tb H M = M := by simp [PR.tb, PR.places]
      rw [e4, ht]
      show H.t = (p.step H n).2.t
      unfold RP.step
      split
      · rfl
      split
      · rfl
      unfold RP.go
      split
      · rfl
      split
      · rfl
      split
      · rfl
      split
      · rfl
      split
      · rfl
      split
      · exact (lock_t _ _ _).symm
      split
      · rfl
      · exact (unlock_t _ _ _).symm
    | h p =>
      have he : p.enabled H = true := hen
      have e3 : ((PR.h p).step m H n).2.2 = (p.stp m H n).2.2 := by simp [PR.step, HP.step, he]
      rw [e3]
      have hcl := g.2.cl
      have hpt : ∀ (who : Int) (x : OpD), badB x = true ∨ x.kind ≠ 9 → (badB x = false → 6 ≤ x.kind) → (M.do_ who x).1.t = M.t := fun who x h h6 => by
        unfold Tbl.do_
        split
        · rfl
        rename_i hnb
        have hb : badB x = false := by
          cases hbb : badB x with
          | true => exact absurd (.inl hbb) hnb
          | false => rfl
        have hk := h6 hb
        split
        · omega
        split
        · rfl
        split
        · rfl
        split
        · unfold Tbl.watch; split <;> rfl
        split
        · rfl
        split
        · rcases h with h | h
          · rw [hb] at h; cases h
          · contradiction
        · rfl
      by_cases hb : badB p.x = true
      · have : ((PR.h p).tb H M).t = M.t := by
          unfold PR.tb; split
          · exact hpt _ _ (.inl hb) g.2.k6
          · rfl
        rw [this, ht]; simp [HP.stp, hb]
      have hb : badB p.x = false := by simpa using hb
      by_cases h9 : p.x.kind = 9
      · have e4 : (PR.h p).tb H M = (M.do_ p.who p.x).1 := by simp [PR.tb, PR.places, HP.places, HP.one, h9, hen, PR.bef]
        have e5 : (p.stp m H n).2.2 = H.shut p.who := by simp [HP.stp, hb, h9]
        rw [e4, e5]
        unfold Tbl.do_
        rw [if_neg (by simp [hb, hcl]), if_neg (by omega), if_neg (by omega)]
        cases htc : M.t.closed with
        | true =>
          simp only [if_true]
          rw [ht] at htc ⊢
          have : (H.shut p.who).t = { H.t with closed := true } := rfl
          rw [this, ← htc]
        | false =>
          simp only [Bool.false_eq_true, if_false]
          rw [if_neg (by omega), if_neg (by omega), if_pos h9]
          show _ = { H.t with closed := true }
          rw [← ht]
      · have : ((PR.h p).tb H M).t = M.t := by
          unfold PR.tb; split
          · exact hpt _ _ (.inr h9) g.2.k6
          · rfl
        rw [this, ht]
        simp only [HP.stp, hb, h9, Bool.false_eq_true, if_false]
        split
        · unfold HP.stpP
          split
          · exact (lock_t _ _ _).symm
          split
          · rfl
          split
          · rfl
          · exact (unlock_t _ _ _).symm
        · unfold HP.stpW
          split
          · exact (lock_t _ _ _).symm
          split
          · rfl
          split
          · split
            · rfl
            split <;> rfl
          · exact (unlock_t _ _ _).symm
theorem em_of {W : Wd} {i : Nat} {p : PR} (h : W.ps i = some p) : W.em i = p.em (W.ms i) W.H.c := by simp [Wd.em, h]
theorem LI.ma {W : Wd} {M : Tbl} {k : Nat} (x : LI W M) (ts : TS k M) {i : Nat} {p : HP} (hp : W.ps i = some (.h p)) (h1 : p.at_ ≠ 2) : MA p (W.ms i) M := by
  have hpa := x.pa i _ hp
  have he : W.em i = W.ms i := by rw [em_of hp]; simp [PR.em, HP.em, h1]
  have hw := hpa.2.w
  exact ⟨by rw [hw, x.ws.watching ts hpa.2.i8, he], by rw [hw, x.ws.count hpa.2.i8, he]⟩
theorem LI.loc {W : Wd} {M : Tbl} {k j : Nat} (x : LI W M) (hs : HS k W.H) (ts : TS j M) {i : Nat} {p : PR} (hp : W.ps i = some p) (n : Int) (he : p.enabled W.H = true) {s : Nat} (hn : s < W.H.n) :
    Loc i p (p.step (W.ms i) W.H n).1 (W.ms i) (p.step (W.ms i) W.H n).2.1 W.H (p.step (W.ms i) W.H n).2.2 M (p.tb W.H M) s := by
  have hpa := x.pa i _ hp
  cases p with
  | w p => exact wloc (m := 0) hs hpa.1 hpa.2 x.t x.c x.n n hn he
  | r p => exact rloc hpa.1 hpa.2 n hn he
  | h p => exact hloc hpa.1 hpa.2 x.t x.c x.n (fun _ _ h => x.ma ts hp (by omega)) n hn he
end Go.Den
namespace Go.Den
open Go
set_option linter.unusedVariables false
set_option linter.unusedSimpArgs false
theorem bef_ws {k : WK} {s : Nat} {M : Tbl} (s' : Nat) : ((k.bef s M).1.fd s').ws = (M.fd s').ws := by
  cases k with
  | bad => rfl
  | op x =>
    simp only [WK.bef, Tbl.write]
    split
    · rfl
    · simp only [Tbl.writeAt, bset]
      split
      · rename_i h; rw [tell_ws, h]; rfl
      · rfl
  | sweep =>
    simp only [WK.bef, Tbl.sweep]
    split
    · simp only [Tbl.sweepAt, bset]
      split
      · rename_i h; rw [tell_ws, h]; rfl
      · rfl
    · rfl
theorem step_em_ne {W : Wd} {i : Nat} {n : Int} (hc : (W.step i n).H.c = W.H.c) {j : Nat} (h : j ≠ i) : (W.step i n).em j = W.em j := by
  unfold Wd.em
  unfold Wd.step at hc ⊢
  cases hp : W.ps i with
  | none => rfl
  | some p =>
    simp only [hp] at hc ⊢
    rw [bset_ne h, bset_ne h, hc]
theorem HP.em_def (p : HP) (m : Mine) (c : Cfg) : p.em m c = if p.one = false ∧ p.x.kind ≠ 8 ∧ p.at_ = 2 ∧ p.wres m c = 0 then miset m p.x.user (decide (p.x.kind = 6)) else m := rfl
theorem LI.ws_step {W : Wd} {M : Tbl} {j : Nat} (x : LI W M) (ts : TS j M) {i : Nat} {p : PR} (hp : W.ps i = some p) (n : Int) (hc : (W.step i n).H.c = W.H.c) (hm : (p.tb W.H M).n = M.n ∧ (p.tb W.H M).c = M.c) : WsI (p.tb W.H M) (W.step i n).em := by
  have hpa := x.pa i p hp
  have hWi : (W.step i n).em i = (p.step (W.ms i) W.H n).1.em (p.step (W.ms i) W.H n).2.1 W.H.c := by
    have : (W.step i n).ps i = some (p.step (W.ms i) W.H n).1 := by simp only [Wd.step, hp, bset_same]
    rw [em_of this, hc]
    simp only [Wd.step, hp, bset_same]
  have hWn := fun j (h : j ≠ i) => step_em_ne (W := W) (i := i) (n := n) hc h
  have he0 := em_of hp
  -- nothing is changed
  have same : (∀ s, s < M.n → ((p.tb W.H M).fd s).ws = (M.fd s).ws) → (p.step (W.ms i) W.H n).1.em (p.step (W.ms i) W.H n).2.1 W.H.c = p.em (W.ms i) W.H.c → WsI (p.tb W.H M) (W.step i n).em := fun h1 h2 =>
    x.ws.same hm.1 hm.2 h1 fun j hj => by
      by_cases h : j = i
      · subst h; rw [hWi, he0, h2]
      · exact hWn j h
  cases hen : p.enabled W.H with
  | false =>
    refine same (fun s _ => by simp [PR.tb, hen]) ?_
    rw [pstep_off hen]
  | true =>
    cases p with
    | w p =>
      refine same (fun s _ => ?_) rfl
      unfold PR.tb; split
      · exact bef_ws s
      · rfl
    | r p => exact same (fun s _ => by simp [PR.tb, PR.places]) rfl
    | h p =>
      have he : p.enabled W.H = true := hen
      have hl := HP.lt_of_en he
      have e3 : (PR.h p).step (W.ms i) W.H n = (.h (p.stp (W.ms i) W.H n).1, (p.stp (W.ms i) W.H n).2.1, (p.stp (W.ms i) W.H n).2.2) := by simp [PR.step, HP.step, he]
      rw [e3] at same hWi
      dsimp only [PR.em] at same hWi he0
      have hcl := hpa.2.cl
      by_cases hb : badB p.x = true
      · refine same (fun s _ => ?_) ?_
        · unfold PR.tb; split
          · simp [PR.bef, Tbl.do_, hb]
          · rfl
        · simp [HP.stp, hb, HP.em, HP.one]
      have hb : badB p.x = false := by simpa using hb
      by_cases h9 : p.x.kind = 9
      · refine same (fun s _ => ?_) ?_
        · unfold PR.tb; split
          · simp only [PR.bef]
            unfold Tbl.do_
            rw [if_neg (by simp [hb, hcl]), if_neg (by omega), if_neg (by omega)]
            split
            · rfl
            rw [if_neg (by omega), if_neg (by omega)]
            try rw [if_pos h9]
          · rfl
        · simp [HP.stp, hb, HP.em, HP.one, h9]
      have one : p.one = false := by simp [HP.one, hb, h9]
      by_cases h8 : p.x.kind = 8
      · have hem : ∀ q : HP, q.x = p.x → q.em (W.ms i) W.H.c = W.ms i := fun q hq => by rw [HP.em_def, if_neg (by rw [hq]; simp [h8])]
        have hx : (p.stpP W.H n).1.x = p.x := by
          unfold HP.stpP; split
          · rfl
          split
          · rfl
          split <;> rfl
        have estp : p.stp (W.ms i) W.H n = ((p.stpP W.H n).1, W.ms i, (p.stpP W.H n).2) := by simp [HP.stp, hb, h8]
        refine same (fun s _ => ?_) (by rw [estp]; dsimp only; rw [hem _ hx, hem p rfl])
        unfold PR.tb; split
        · simp only [PR.bef]
          unfold Tbl.do_
          rw [if_neg (by simp [hb, hcl]), if_neg (by omega), if_pos h8]
          have hdw := drain_ws (M.fd s) p.who
          show (if s < M.n then (M.fd s).drain p.who else M.fd s).ws = _
          by_cases hsn : s < M.n
          · rw [if_pos hsn]; exact hdw
          · rw [if_neg hsn]
        · rfl
      -- a Watch or Unwatch
      have estp : p.stp (W.ms i) W.H n = p.stpW (W.ms i) W.H n := by simp [HP.stp, hb, h9, h8]
      rw [estp] at same hWi
      have hst : p.steps = 4 := (HP.kind_of hb h9 h8).2
      by_cases h1 : p.at_ = 1
      · have hpl : p.places = true := by simp [HP.places, one, h8, h1]
        have etb : (PR.h p).tb W.H M = (M.do_ p.who p.x).1 := by simp [PR.tb, PR.places, hen, hpl, PR.bef]
        have ma := x.ma ts hp (by omega)
        have hdo := (do_watch (i := i) (p := { p with t := W.H.t }) (m := W.ms i) (M := M) (c := W.H.c) ⟨hpa.2.w, hpa.2.i8, hpa.2.k6, hpa.2.s⟩ x.c ⟨ma.wt, ma.ct⟩ x.t.symm hb h9 h8).1
        dsimp only at hdo
        have e1 : p.stpW (W.ms i) W.H n = ({ p with at_ := 2, t := W.H.t, placed := n }, W.ms i, W.H.look p.who) := by simp [HP.stpW, h1]
        rw [e1] at hWi
        dsimp only at hWi
        rw [HP.em_def] at hWi
        dsimp only at hWi
        have hwr : ({ p with at_ := 2, t := W.H.t, placed := n } : HP).wres (W.ms i) W.H.c = ({ p with t := W.H.t } : HP).wres (W.ms i) W.H.c := rfl
        have ho : ({ p with at_ := 2, t := W.H.t, placed := n } : HP).one = false := one
        rw [hwr, ho] at hWi
        have hei : W.em i = W.ms i := by rw [he0, HP.em_def, if_neg (by omega)]
        rw [etb, hdo]
        by_cases hr : ({ p with t := W.H.t } : HP).wres (W.ms i) W.H.c = 0
        · rw [if_pos hr]
          rw [if_pos ⟨rfl, h8, rfl, hr⟩] at hWi
          refine WsI.put (p := { p with t := W.H.t }) x.ws ts hpa.2.i8 hpa.2.w (by rw [hpa.2.s, Tbl.stripe, x.c]) ?_ fun j hj => hWn j hj
          rw [hWi, hei]
        · rw [if_neg hr]
          rw [if_neg (fun h => hr h.2.2.2)] at hWi
          refine x.ws.same rfl rfl (fun _ _ => rfl) fun j hj => ?_
          by_cases h : j = i
          · subst h; rw [hWi, hei]
          · exact hWn j h
      have hpl : p.places = false := by simp [HP.places, one, h8, h1]
      have etn : (PR.h p).tb W.H M = M := by simp [PR.tb, PR.places, hpl]
      refine same (fun s _ => by rw [etn]) ?_
      rw [HP.em_def p]
      unfold HP.stpW
      by_cases h0 : p.at_ = 0
      · rw [if_pos h0, if_neg (by omega)]
        dsimp only
        rw [HP.em_def, if_neg (by dsimp only; omega)]
      rw [if_neg h0, if_neg h1]
      by_cases h2 : p.at_ = 2
      · rw [if_pos h2]
        by_cases hcl' : p.t.closed = true
        · have hr : p.wres (W.ms i) W.H.c = 5 := by simp [HP.wres, hcl']
          rw [if_pos hcl', if_neg (by omega)]
          dsimp only
          rw [HP.em_def, if_neg (by dsimp only; omega)]
        by_cases hcc : p.x.kind = 6 ∧ mhas (W.ms i) p.x.user = false ∧ W.H.c.watches ≤ ((W.ms i).length : Int)
        · have hr : p.wres (W.ms i) W.H.c = 4 := by simp [HP.wres, hcl', hcc.1, hcc.2.1, hcc.2.2]
          rw [if_neg hcl', if_pos hcc, if_neg (by omega)]
          dsimp only
          rw [HP.em_def, if_neg (by dsimp only; omega)]
        · have hr : p.wres (W.ms i) W.H.c = 0 := by unfold HP.wres; rw [if_neg hcl', if_neg hcc]
          rw [if_neg hcl', if_neg hcc, if_pos ⟨one, h8, h2, hr⟩]
          dsimp only
          rw [HP.em_def, if_neg (by dsimp only; omega)]
      · rw [if_neg h2, if_neg (by omega)]
        dsimp only
        rw [HP.em_def, if_neg (by dsimp only; omega)]
theorem PA.ow {n i : Nat} {c : Cfg} {p : PR} (g : PA n i c p) : p.owd := by
  cases p with
  | w p => exact g.1.o
  | r p => trivial
  | h p => exact g.1.o
theorem LI.step {W : Wd} {M : Tbl} {k j : Nat} (x : LI W M) (hs : HS k W.H) (hk : k < 100000) (ts : TS j M) {i : Nat} {p : PR} (hp : W.ps i = some p) (n : Int) :
    LI (W.step i n) (p.tb W.H M) ∧ HS (k + 1) (W.step i n).H ∧ TS (j + 1) (p.tb W.H M) := by
  have hpa := x.pa i p hp
  obtain ⟨n1, n2, n3, n4⟩ := pstep_n (m := W.ms i) hs n hk hpa
  have hH : (W.step i n).H = (p.step (W.ms i) W.H n).2.2 := by simp only [Wd.step, hp]
  have hP : ∀ j, (W.step i n).ps j = if j = i then some (p.step (W.ms i) W.H n).1 else W.ps j := fun j => by simp only [Wd.step, hp, bset]
  have hM : ∀ j, (W.step i n).ms j = if j = i then (p.step (W.ms i) W.H n).2.1 else W.ms j := fun j => by simp only [Wd.step, hp, bset]
  have tbn := tb_n x.n hpa
  have hc : (W.step i n).H.c = W.H.c := by rw [hH]; exact n2
  have hpa' : ∀ j q, (W.step i n).ps j = some q → PA W.H.n j W.H.c q := fun j q hq => by
    rw [hP] at hq
    split at hq
    · rename_i h; simp only [Option.some.injEq] at hq; subst hq; subst h; exact n4
    · exact x.pa j q hq
  refine ⟨?_, by rw [hH]; exact n3, ts.tb hpa.ow⟩
  cases hen : p.enabled W.H with
  | false =>
    have e := pstep_off (m := W.ms i) (n := n) hen
    have e1 : W.step i n = W := by
      simp only [Wd.step, hp, e]
      rw [← hp, bset_id, bset_id]
    have e2 : p.tb W.H M = M := by simp [PR.tb, hen]
    rw [e1, e2]; exact x
  | true =>
    have L := fun s hn => x.loc hs ts hp n hen (s := s) hn
    rw [← hH] at L
    refine ⟨by rw [hH]; exact tb_t x.t x.n hpa n, tbn.2.trans (x.c.trans hc.symm), tbn.1.trans (x.n.trans (by rw [hH]; exact n1.symm)), fun s hs' => ?_, fun j q s hs' hq hh => ?_, fun j q hq => ?_, x.ws_step ts hp n hc tbn⟩
    · have hsn : s < W.H.n := by rw [hH, n1] at hs'; exact hs'
      have Ls := L s hsn
      by_cases hh : p.holds s
      · have hwho := x.own i p s hsn hp hh
        have hd : Held p (W.ms i) W.H.c s (W.H.ss s) (M.st s) := by
          rcases x.st s hsn with h | ⟨j, q, h1, h2, h3, h4⟩
          · have := h.wh; omega
          · have : j = i := by omega
            subst this
            rw [hp] at h1; cases h1
            exact h4
        rcases Ls.a hh hwho hd with ⟨h1, h2, h3⟩ | ⟨h1, h2⟩
        · refine .inr ⟨i, _, by rw [hP, if_pos rfl], h1, h2, ?_⟩
          rw [hM, if_pos rfl, hc]; exact h3
        · exact .inl h2
      · rcases Ls.b hh with ⟨h1, h2, h3⟩ | ⟨h1, h2, h3, h4, h5, h6, h7⟩
        · rw [h1, h2]
          rcases x.st s hsn with h | ⟨j, q, g1, g2, g3, g4⟩
          · exact .inl h
          · have hji : j ≠ i := fun h => by
              subst h
              rw [hp] at g1; cases g1
              exact hh g2
            refine .inr ⟨j, q, by rw [hP, if_neg hji]; exact g1, g2, g3, ?_⟩
            rw [hM, if_neg hji, hc]; exact g4
        · rw [h2, h4]
          rcases x.st s hsn with h | ⟨j, q, g1, g2, g3, g4⟩
          · refine .inr ⟨i, _, by rw [hP, if_pos rfl], h3, rfl, ?_⟩
            rw [hM, if_pos rfl, hc]
            exact ⟨by rw [h7]; exact h.e, fun hh => absurd hh h5, fun _ => ⟨h.v, h.q⟩, fun hh => absurd hh h6⟩
          · omega
    · have hsn : s < W.H.n := by rw [hH, n1] at hs'; exact hs'
      have Ls := L s hsn
      rw [hP] at hq
      by_cases hji : j = i
      · subst hji
        rw [if_pos rfl] at hq
        simp only [Option.some.injEq] at hq
        subst hq
        by_cases hph : p.holds s
        · have hwho := x.own j p s hsn hp hph
          have hd : Held p (W.ms j) W.H.c s (W.H.ss s) (M.st s) := by
            rcases x.st s hsn with h | ⟨j', q, h1, h2, h3, h4⟩
            · have := h.wh; omega
            · have : j' = j := by omega
              subst this
              rw [hp] at h1; cases h1
              exact h4
          rcases Ls.a hph hwho hd with ⟨h1, h2, h3⟩ | ⟨h1, h2⟩
          · exact h2
          · exact absurd hh h1
        · rcases Ls.b hph with ⟨h1, h2, h3⟩ | ⟨h1, h2, h3, h4, h5, h6, h7⟩
          · exact absurd hh h3
          · rw [h4]
      · rw [if_neg hji] at hq
        have hwho := x.own j q s hsn hq hh
        have hph : ¬ p.holds s := fun h => by
          have := x.own i p s hsn hp h
          omega
        rcases Ls.b hph with ⟨h1, h2, h3⟩ | ⟨h1, h2, h3, h4, h5, h6, h7⟩
        · rw [h1]; exact hwho
        · omega
    · rw [hH, n1, n2]; exact hpa' j q hq
end Go.Den
namespace Go.Den
open Go
set_option linter.unusedVariables false
set_option linter.unusedSimpArgs false
/-- A writing's reply is what the table answered. -/
structure WO (p : WP) (H : Hall) (r : Reply) : Prop where
  b : p.k.isBad = true → p.at_ = 0 ∨ (p.at_ = 7 ∧ p.err = 1 ∧ r = repE 1)
  g : p.k.isBad = false → 3 ≤ p.at_ → r = repE (if p.at_ = 3 then p.k.er H.c p.t (H.ss p.s).book else p.err)
/-- What a Poll still has to be told. -/
def HP.rest (p : HP) (H : Hall) (j : Nat) : List (List Evt) := ((List.range p.k).drop j).map fun s => (H.ss s).feed.told p.who
def HP.restL (p : HP) (H : Hall) (j : Nat) : Bool := ((List.range p.k).drop j).any fun s => (H.ss s).feed.lost p.who
structure HO (p : HP) (m : Mine) (H : Hall) (r : Reply) : Prop where
  o : p.one = true → (p.at_ = 0 ∧ p.rep = rep0) ∨ (p.at_ = 1 ∧ p.rep = r)
  p0 : p.one = false → p.x.kind = 8 → p.rep.err = 0 ∧ p.rep.vals = [] ∧ (p.at_ ≤ p.k → p.all = [] ∧ p.rep.lost = false ∧ p.rep.evs = []) ∧
    (p.k < p.at_ → r = ⟨0, [], mergeE (p.all ++ p.rest H (p.at_ - p.k - 1)), p.rep.lost || p.restL H (p.at_ - p.k - 1)⟩) ∧ (2 * p.k + 1 < p.at_ → p.rep.evs = mergeE p.all)
  w : p.one = false → p.x.kind ≠ 8 → (p.at_ ≤ 2 → p.rep = rep0) ∧ (p.at_ = 2 → r = repE (p.wres m H.c)) ∧ (3 ≤ p.at_ → r = p.rep)
def PO : PR → Mine → Hall → Reply → Prop
  | .w p, _, H, r => WO p H r
  | .r _, _, _, _ => True
  | .h p, m, H, r => HO p m H r
theorem told_drop (p : HP) (H : Hall) {j : Nat} (hj : j < p.k) : p.rest H j = (H.ss j).feed.told p.who :: p.rest H (j + 1) := by
  unfold HP.rest
  rw [List.drop_eq_getElem_cons (by simpa using hj)]; simp
theorem told_dropL (p : HP) (H : Hall) {j : Nat} (hj : j < p.k) : p.restL H j = ((H.ss j).feed.lost p.who || p.restL H (j + 1)) := by
  unfold HP.restL
  rw [List.drop_eq_getElem_cons (by simpa using hj)]; simp
theorem rest_nil (p : HP) (H : Hall) {j : Nat} (hj : p.k ≤ j) : p.rest H j = [] ∧ p.restL H j = false := by
  unfold HP.rest HP.restL
  have : (List.range p.k).drop j = [] := List.drop_eq_nil_iff.2 (by simpa using hj)
  rw [this]; simp
theorem rest_congr {p q : HP} {H H' : Hall} (hk : q.k = p.k) (hw : q.who = p.who) {j : Nat} (h : ∀ s, j ≤ s → s < p.k → (H'.ss s).feed = (H.ss s).feed) : q.rest H' j = p.rest H j ∧ q.restL H' j = p.restL H j := by
  have key : ∀ s ∈ (List.range p.k).drop j, (H'.ss s).feed = (H.ss s).feed := fun s hs => by
    obtain ⟨i, hi, e⟩ := List.getElem_of_mem hs
    rw [List.getElem_drop, List.getElem_range] at e
    simp at hi
    exact h s (by omega) (by omega)
  unfold HP.rest HP.restL
  rw [hk, hw]
  constructor
  · exact List.map_congr_left fun s hs => by rw [key s hs]
  · rw [Bool.eq_iff_iff]
    simp only [List.any_eq_true]
    constructor
    · rintro ⟨s, h1, h2⟩; exact ⟨s, h1, by rw [← key s h1]; exact h2⟩
    · rintro ⟨s, h1, h2⟩; exact ⟨s, h1, by rw [key s h1]; exact h2⟩
/-- Others' steps leave it. -/
theorem PO.frame {i n : Nat} {p : PR} {m : Mine} {H H' : Hall} {r : Reply} (x : PO p m H r) (g : PA n i H.c p) (hc : H'.c = H.c) (h : ∀ s, p.holds s → s < n → H'.ss s = H.ss s) : PO p m H' r := by
  cases p with
  | w p =>
    refine ⟨x.b, fun h1 h2 => ?_⟩
    rw [x.g h1 h2, hc]
    by_cases h3 : p.at_ = 3
    · rw [if_pos h3, if_pos h3, h p.s ⟨h1, by omega, by omega, rfl⟩ g.1.s]
    · rw [if_neg h3, if_neg h3]
  | r p => trivial
  | h p =>
    refine ⟨x.o, fun h1 h8 => ?_, fun h1 h8 => by rw [hc]; exact x.w h1 h8⟩
    obtain ⟨a1, a2, a3, a4, a5⟩ := x.p0 h1 h8
    refine ⟨a1, a2, a3, fun hk => ?_, a5⟩
    rw [a4 hk]
    have := rest_congr (p := p) (q := p) (H := H) (H' := H') rfl rfl (j := p.at_ - p.k - 1) fun s hs1 hs2 => by
      rw [h s]
      · unfold PR.holds HP.holds
        dsimp only
        rw [if_pos h8]
        exact ⟨h1, by have := g.1.a; have := (HP.poll_of (p := p) (by simp [HP.one] at h1; exact h1.1) h8).2; omega, hs2, by omega⟩
      · have := g.1.k; omega
    rw [this.1, this.2]
theorem LI.free_of {W : Wd} {M : Tbl} (x : LI W M) {i : Nat} {p : PR} (hp : W.ps i = some p) {s : Nat} (hs : s < W.H.n) (hh : p.holds s) : Held p (W.ms i) W.H.c s (W.H.ss s) (M.st s) := by
  have hwho := x.own i p s hs hp hh
  rcases x.st s hs with h | ⟨j, q, h1, h2, h3, h4⟩
  · have := h.wh; omega
  · have : j = i := by omega
    subst this
    rw [hp] at h1; cases h1
    exact h4
/-- One's own step. -/
theorem LI.po_step {W : Wd} {M : Tbl} {k j : Nat} (x : LI W M) (hs : HS k W.H) (ts : TS j M) {i : Nat} {p : PR} (hp : W.ps i = some p) (n : Int) {r : Reply} (po : PO p (W.ms i) W.H r) :
    PO (p.step (W.ms i) W.H n).1 (p.step (W.ms i) W.H n).2.1 (p.step (W.ms i) W.H n).2.2 (if p.enabled W.H = true ∧ p.places = true then (p.bef M).2 else r) := by
  have hpa := x.pa i p hp
  cases hen : p.enabled W.H with
  | false => rw [pstep_off hen]; simpa using po
  | true =>
    cases p with
    | w p =>
      have he : p.enabled W.H = true := hen
      have hl := enabled_at he
      by_cases hb : p.k.isBad = true
      · have hkb : p.k = .bad := by cases hk : p.k <;> simp [hk, WK.isBad] at hb ⊢
        have e1 : (PR.w p).step (W.ms i) W.H n = (.w { p with err := 1, placed := n, at_ := 7 }, W.ms i, W.H) := by simp [PR.step, WP.step, he, hb]
        rw [e1]
        refine ⟨fun _ => .inr ⟨rfl, rfl, ?_⟩, fun h => ?_⟩
        · simp [PR.places, WP.places, hb, PR.bef, hkb, WK.bef]
          intro h; simp [WK.isBad] at h
        · have h : p.k.isBad = false := h
          rw [hb] at h; cases h
      have hb : p.k.isBad = false := by simpa using hb
      have e3 : (PR.w p).step (W.ms i) W.H n = (.w (p.stp W.H n).1, W.ms i, (p.stp W.H n).2) := by simp [PR.step, WP.step, he, hb]
      rw [e3]
      have hk' := stp_k p W.H n
      refine ⟨fun h => (by rw [hk'.1, hb] at h; cases h), fun _ h3 => ?_⟩
      have hat := stp_at p W.H n hl
      by_cases h2 : p.at_ = 2
      · have hpl : (PR.w p).places = true := by simp [PR.places, WP.places, h2]
        rw [if_pos ⟨rfl, hpl⟩, if_pos (by rw [hat]; omega), stp2 W.H n h2]
        have hd := x.free_of hp hpa.1.s (s := p.s) ⟨hb, by omega, by omega, rfl⟩
        have hde := hd.e
        simp only [PR.pend, WP.pend, h2] at hde
        have hbk : M.bk p.s = (W.H.ss p.s).book := by
          have : M.st p.s = ((W.H.ss p.s).book, (W.H.ss p.s).feed) := by simpa using hde
          exact congrArg Prod.fst this
        simp only [PR.bef]
        show (p.k.bef p.s M).2 = repE (p.k.er W.H.c (W.H.take p.who).t (W.H.ss p.s).book)
        cases hk : p.k with
        | bad => simp [hk, WK.isBad] at hb
        | op o =>
          have hst : M.stripe o.user = p.s := by rw [Tbl.stripe, x.c]; exact (hpa.2.s o hk).symm
          simp only [WK.bef, Tbl.write, WK.er, hst, hbk, x.c, x.t]
          have : (W.H.take p.who).t.closed = W.H.t.closed := rfl
          rw [this]
          split <;> rfl
        | sweep => rfl
      · have hpl : (PR.w p).places = false := by simp [PR.places, WP.places, hb, h2]
        rw [if_neg (by simp [hpl])]
        have h3' : 3 ≤ p.at_ := by rw [hat] at h3; omega
        have hr := po.g hb h3'
        rw [if_neg (by rw [hat]; omega), hr]
        by_cases h3 : p.at_ = 3
        · rw [if_pos h3, stp3 W.H n h3]
          show repE _ = repE (p.k.run W.H p.who p.s p.t).2
          rw [run_er]
        · rw [if_neg h3]
          by_cases h4 : p.at_ = 4
          · rw [stp4 W.H n h4]
          by_cases h5 : p.at_ = 5
          · rw [stp5 W.H n h5]
          · rw [stp6 W.H n (by omega)]
    | r p => trivial
    | h p =>
      have he : p.enabled W.H = true := hen
      have hl := HP.lt_of_en he
      have e3 : (PR.h p).step (W.ms i) W.H n = (.h (p.stp (W.ms i) W.H n).1, (p.stp (W.ms i) W.H n).2.1, (p.stp (W.ms i) W.H n).2.2) := by simp [PR.step, HP.step, he]
      rw [e3]
      have rN : (PR.h p).places = false → (if true = true ∧ (PR.h p).places = true then ((PR.h p).bef M).2 else r) = r := fun h => by simp [h]
      have rY : (PR.h p).places = true → (if true = true ∧ (PR.h p).places = true then ((PR.h p).bef M).2 else r) = ((PR.h p).bef M).2 := fun h => by simp [h]
      have hcl := hpa.2.cl
      have hw := hpa.2.w
      by_cases hb : badB p.x = true
      · have ho : p.one = true := by simp [HP.one, hb]
        have hpl : (PR.h p).places = true := by simp [PR.places, HP.places, ho]
        have h0 : p.at_ = 0 ∧ p.rep = rep0 := by
          rcases po.o ho with h | h
          · exact h
          · have : p.steps = 1 := by simp [HP.steps, ho]
            omega
        rw [rY hpl]
        simp only [HP.stp, hb, if_true]
        refine ⟨fun _ => .inr ⟨rfl, ?_⟩, fun h => by simp [HP.one, hb] at h, fun h => by simp [HP.one, hb] at h⟩
        simp [PR.bef, Tbl.do_, hb, h0.2, rep0, repE]
      have hb : badB p.x = false := by simpa using hb
      by_cases h9 : p.x.kind = 9
      · have ho : p.one = true := by simp [HP.one, h9]
        have hpl : (PR.h p).places = true := by simp [PR.places, HP.places, ho]
        have h0 : p.at_ = 0 ∧ p.rep = rep0 := by
          rcases po.o ho with h | h
          · exact h
          · have : p.steps = 1 := by simp [HP.steps, ho]
            omega
        rw [rY hpl]
        simp only [HP.stp, hb, h9, Bool.false_eq_true, if_false, if_true]
        refine ⟨fun _ => .inr ⟨rfl, ?_⟩, fun h => by simp [HP.one, h9] at h, fun h => by simp [HP.one, h9] at h⟩
        have hd : (M.do_ p.who p.x).2 = if M.t.closed then repE 5 else rep0 := by
          unfold Tbl.do_
          rw [if_neg (by simp [hb, hcl]), if_neg (by omega), if_neg (by omega)]
          split
          · rfl
          · rw [if_neg (by omega), if_neg (by omega)]
            try rw [if_pos h9]
        simp only [PR.bef]
        rw [hd, x.t, h0.2]
        split <;> rfl
      have one : p.one = false := by simp [HP.one, hb, h9]
      have onq : ∀ q : HP, q.x = p.x → q.one = false := fun q h => by simp [HP.one, h, hb, h9]
      by_cases h8 : p.x.kind = 8
      · have hk := hpa.1.k
        have hst : p.steps = 3 * p.k + 1 := (HP.poll_of hb h8).2
        have hk1 := hs.n8.1
        obtain ⟨a1, a2, a3, a4, a5⟩ := po.p0 one h8
        have estp : p.stp (W.ms i) W.H n = ((p.stpP W.H n).1, W.ms i, (p.stpP W.H n).2) := by simp [HP.stp, hb, h8]
        rw [estp]
        dsimp only
        have mk : ∀ (q : HP) (H' : Hall) (r' : Reply), q.x = p.x → (q.rep.err = 0 ∧ q.rep.vals = [] ∧ (q.at_ ≤ q.k → q.all = [] ∧ q.rep.lost = false ∧ q.rep.evs = []) ∧
          (q.k < q.at_ → r' = ⟨0, [], mergeE (q.all ++ q.rest H' (q.at_ - q.k - 1)), q.rep.lost || q.restL H' (q.at_ - q.k - 1)⟩) ∧ (2 * q.k + 1 < q.at_ → q.rep.evs = mergeE q.all)) → PO (.h q) (W.ms i) H' r' := fun q H' r' hq h =>
          ⟨fun hh => (by rw [onq q hq] at hh; cases hh), fun _ _ => h, fun _ hh => by rw [hq] at hh; exact absurd h8 hh⟩
        unfold HP.stpP
        by_cases hlk : p.at_ < p.k
        · have hpl : (PR.h p).places = false := by simp [PR.places, HP.places, one, h8]; omega
          rw [rN hpl, if_pos hlk]
          exact mk _ _ _ rfl ⟨a1, a2, fun _ => a3 (by omega), fun h => by dsimp only at h; omega, fun h => by dsimp only at h; omega⟩
        rw [if_neg hlk]
        by_cases hk2 : p.at_ = p.k
        · have hpl : (PR.h p).places = true := by simp [PR.places, HP.places, one, h8, hk2]
          have hdo : (M.do_ p.who p.x).2 = ⟨0, [], mergeE (M.toldTo p.who M.n), M.lostTo p.who M.n⟩ := by
            unfold Tbl.do_
            rw [if_neg (by simp [hb, hcl]), if_neg (by omega), if_pos h8]; rfl
          rw [rY hpl, if_pos hk2]
          obtain ⟨b1, b2, b3⟩ := a3 (by omega)
          refine mk _ _ _ rfl ⟨a1, a2, fun h => by dsimp only at h; omega, fun h => ?_, fun h => by dsimp only at h; omega⟩
          dsimp only
          rw [show (PR.h p).bef M = M.do_ p.who p.x from rfl, hdo, b1, b2]
          have hfd : ∀ s, s < p.k → M.fd s = (W.H.ss s).feed := fun s hsk => by
            have hd := x.free_of hp (s := s) (by omega) (by unfold PR.holds HP.holds; dsimp only; rw [if_pos h8]; exact ⟨one, by omega, hsk, by omega⟩)
            have hde := hd.e
            simp only [PR.pend, HP.pend, one, h8] at hde
            have : ¬ (p.k < p.at_ ∧ p.at_ ≤ p.k + 1 + s) := by omega
            have hde : M.st s = ((W.H.ss s).book, (W.H.ss s).feed) := by simpa [this] using hde
            exact congrArg Prod.snd hde
          have hz : p.at_ + 1 - p.k - 1 = 0 := by omega
          rw [hz]
          have hnk : M.n = p.k := by rw [x.n, hk]
          congr 1
          · rw [List.nil_append]
            congr 1
            unfold HP.rest Tbl.toldTo
            rw [hnk, List.drop_zero]
            exact List.map_congr_left fun s hs => by rw [hfd s (by simpa using hs)]; rfl
          · rw [Bool.false_or]
            unfold HP.restL Tbl.lostTo
            rw [hnk, List.drop_zero, Bool.eq_iff_iff]
            simp only [List.any_eq_true, List.mem_range]
            constructor
            · rintro ⟨s, h1, h2⟩; exact ⟨s, h1, by rw [hfd s h1] at h2; exact h2⟩
            · rintro ⟨s, h1, h2⟩; exact ⟨s, h1, by rw [hfd s h1]; exact h2⟩
        rw [if_neg hk2]
        have hpl : (PR.h p).places = false := by simp [PR.places, HP.places, one, h8]; omega
        rw [rN hpl]
        have hr := a4 (by omega)
        by_cases hk3 : p.at_ ≤ 2 * p.k
        · rw [if_pos hk3]
          refine mk _ _ _ rfl ⟨a1, a2, fun h => by dsimp only at h; omega, fun h => ?_, fun h => by dsimp only at h; omega⟩
          dsimp only
          rw [hr]
          have hj : p.at_ - p.k - 1 < p.k := by omega
          have hj2 : p.at_ + 1 - p.k - 1 = (p.at_ - p.k - 1) + 1 := by omega
          have hcg := rest_congr (p := p) (q := { p with at_ := p.at_ + 1, all := p.all ++ [(W.H.ss (p.at_ - p.k - 1)).feed.told p.who], rep := { p.rep with lost := p.rep.lost || (W.H.ss (p.at_ - p.k - 1)).feed.lost p.who } }) (H := W.H) (H' := W.H.drain p.who (p.at_ - p.k - 1)) rfl rfl (j := p.at_ + 1 - p.k - 1) fun s h1 h2 => by
            unfold Hall.drain
            rw [fed_ss, if_neg (by omega)]
          rw [hcg.1, hcg.2, hj2, told_drop p W.H hj, told_dropL p W.H hj]
          simp [Bool.or_assoc]
        · rw [if_neg hk3]
          refine mk _ _ _ rfl ⟨a1, a2, fun h => by dsimp only at h; omega, fun h => ?_, fun h => rfl⟩
          dsimp only
          have h1 := rest_nil p W.H (j := p.at_ - p.k - 1) (by omega)
          have h2 := rest_nil { p with at_ := p.at_ + 1, rep := { p.rep with evs := mergeE p.all } } (W.H.unlock p.who (p.at_ - 2 * p.k - 1)) (j := p.at_ + 1 - p.k - 1) (by dsimp only; omega)
          rw [hr, h1.1, h1.2, h2.1, h2.2]
      have hst : p.steps = 4 := (HP.kind_of hb h9 h8).2
      obtain ⟨a1, a2, a3⟩ := po.w one h8
      have estp : p.stp (W.ms i) W.H n = p.stpW (W.ms i) W.H n := by simp [HP.stp, hb, h9, h8]
      rw [estp]
      have mk : ∀ (q : HP) (m' : Mine) (H' : Hall) (r' : Reply), q.x = p.x → ((q.at_ ≤ 2 → q.rep = rep0) ∧ (q.at_ = 2 → r' = repE (q.wres m' H'.c)) ∧ (3 ≤ q.at_ → r' = q.rep)) → PO (.h q) m' H' r' := fun q m' H' r' hq h =>
        ⟨fun hh => (by rw [onq q hq] at hh; cases hh), fun _ hh => by rw [hq] at hh; exact absurd hh h8, fun _ _ => h⟩
      unfold HP.stpW
      by_cases h0 : p.at_ = 0
      · have hpl : (PR.h p).places = false := by simp [PR.places, HP.places, one, h8]; omega
        rw [rN hpl, if_pos h0]
        exact mk _ _ _ _ rfl ⟨fun _ => a1 (by omega), fun h => by dsimp only at h; omega, fun h => by dsimp only at h; omega⟩
      rw [if_neg h0]
      by_cases h1 : p.at_ = 1
      · have hpl : (PR.h p).places = true := by simp [PR.places, HP.places, one, h8, h1]
        rw [rY hpl, if_pos h1]
        have ma := x.ma ts hp (by omega)
        have hdo := (do_watch (i := i) (p := { p with t := W.H.t }) (m := W.ms i) (M := M) (c := W.H.c) ⟨hpa.2.w, hpa.2.i8, hpa.2.k6, hpa.2.s⟩ x.c ⟨ma.wt, ma.ct⟩ x.t.symm hb h9 h8).2
        exact mk _ _ _ _ rfl ⟨fun _ => a1 (by omega), fun h => hdo, fun h => by dsimp only at h; omega⟩
      rw [if_neg h1]
      have hpl : (PR.h p).places = false := by simp [PR.places, HP.places, one, h8]; omega
      rw [rN hpl]
      by_cases h2 : p.at_ = 2
      · rw [if_pos h2]
        have hr := a2 h2
        have h00 := a1 (by omega)
        by_cases hcl' : p.t.closed = true
        · rw [if_pos hcl']
          refine mk _ _ _ _ rfl ⟨fun h => by dsimp only at h; omega, fun h => by dsimp only at h; omega, fun _ => ?_⟩
          rw [hr]; simp [HP.wres, hcl', h00, rep0, repE]
        rw [if_neg hcl']
        by_cases hcc : p.x.kind = 6 ∧ mhas (W.ms i) p.x.user = false ∧ W.H.c.watches ≤ ((W.ms i).length : Int)
        · rw [if_pos hcc]
          refine mk _ _ _ _ rfl ⟨fun h => by dsimp only at h; omega, fun h => by dsimp only at h; omega, fun _ => ?_⟩
          rw [hr]; simp [HP.wres, hcl', hcc.1, hcc.2.1, hcc.2.2, h00, rep0, repE]
        · rw [if_neg hcc]
          refine mk _ _ _ _ rfl ⟨fun h => by dsimp only at h; omega, fun h => by dsimp only at h; omega, fun _ => ?_⟩
          have : p.wres (W.ms i) W.H.c = 0 := by unfold HP.wres; rw [if_neg hcl', if_neg hcc]
          rw [hr, this]; dsimp only; rw [h00]; rfl
      · rw [if_neg h2]
        refine mk _ _ _ _ rfl ⟨fun h => by dsimp only at h; omega, fun h => by dsimp only at h; omega, fun _ => a3 (by omega)⟩
end Go.Den
namespace Go.Den
open Go
set_option linter.unusedVariables false
set_option linter.unusedSimpArgs false
/-- From a stripe to what it is behind a step of somebody else: while its epoch stays even and below its bound, what was published stays. -/
structure Vm (x x' : Strp) : Prop where
  b : x'.bound = x.bound
  v : x.v ≤ x'.v
  q : x'.v = x.v → wrt x.v = false → x.v < x.bound → x'.snap = x.snap
theorem Vm.refl (x : Strp) : Vm x x := ⟨rfl, Int.le_refl _, fun _ _ _ => rfl⟩
theorem Vm.put {H : Hall} {s : Nat} {y : Strp} (h : Vm (H.ss s) y) (H' : Hall) (e : H'.ss = H.ss) (t : Nat) : Vm (H.ss t) ((H'.put s y).ss t) := by
  simp only [Hall.put, sput, e]
  by_cases hh : t = s
  · subst hh; rw [if_pos rfl]; exact h
  · rw [if_neg hh]; exact Vm.refl _
theorem Vm.lock (H : Hall) (w : Int) (s t : Nat) : Vm (H.ss t) ((H.lock w s).ss t) := by
  unfold Hall.lock; split
  · refine Vm.put ?_ _ rfl t
    exact ⟨rfl, Int.le_refl _, fun _ _ _ => rfl⟩
  · exact Vm.refl _
theorem Vm.unlock (H : Hall) (w : Int) (s t : Nat) : Vm (H.ss t) ((H.unlock w s).ss t) := by
  unfold Hall.unlock; split
  · refine Vm.put ?_ _ rfl t
    exact ⟨rfl, Int.le_refl _, fun _ _ _ => rfl⟩
  · exact Vm.refl _
theorem Vm.fed (H : Hall) (w : Int) (s : Nat) (f : Feed) (t : Nat) : Vm (H.ss t) ((H.fed w s f).ss t) := by
  refine Vm.put ?_ _ rfl t
  exact ⟨rfl, Int.le_refl _, fun _ _ _ => rfl⟩
theorem Vm.run (k : WK) (H : Hall) (w : Int) (s : Nat) (t : Tm) (s' : Nat) : Vm (H.ss s') ((k.run H w s t).1.ss s') := by
  obtain ⟨h1, h2, h3, h4, h5⟩ := run_ss k H w s t s'
  exact ⟨h3, by rw [h2]; exact Int.le_refl _, fun _ _ _ => h4⟩
def clean (H : Hall) (s : Nat) (e : Int) : Prop := (H.ss s).v = e ∧ wrt e = false ∧ e < (H.ss s).bound
structure RO (p : RP) (H : Hall) (x : OpD) (L : Tbl) (tn : Int) : Prop where
  us : p.users = if badB x then [] else usersOf x
  of : p.of = H.c.stripes
  ss : p.ss = stripesOf p.users p.of
  lc : L.c = H.c
  e : ∀ j (hj : j < p.ss.length), ((p.ph = 0 ∧ j < p.at_) ∨ (1 ≤ p.ph ∧ p.ph ≤ 3)) → p.ep j ≤ (H.ss p.ss[j]).v ∧
    (clean H p.ss[j] (p.ep j) → (((p.ph = 1 ∧ j < p.at_) ∨ p.ph = 2) → p.seen p.ss[j] = some (H.ss p.ss[j]).snap) ∧ (p.ph = 3 → p.seen p.ss[j] = some (L.bk p.ss[j])))
  t3 : p.ph = 3 → p.t = L.t ∧ p.looked = tn
  va : p.ph = 3 → p.valid = true → ∀ j (hj : j < p.ss.length), j < p.at_ → p.seen p.ss[j] = some (L.bk p.ss[j])
  k6 : p.ph = 6 → (p.t = L.t ∧ p.looked = tn) ∧ (∀ s ∈ p.ss, (H.ss s).book = L.bk s) ∧ ∀ j (hj : j < p.ss.length), j < p.at_ → p.seen p.ss[j] = some (L.bk p.ss[j])
  k7 : p.ph = 7 → (p.t = L.t ∧ p.looked = tn) ∧ ∀ s ∈ p.ss, p.seen s = some (L.bk s)
  f8 : p.ph = 8 → p.placed = tn ∧ (p.ss = [] → p.err = 1 ∧ p.vals = []) ∧ (p.ss ≠ [] → (L.t.closed = true → p.err = 5 ∧ p.vals = []) ∧ (L.t.closed = false → p.err = 0 ∧ p.vals = p.users.map L.pres))
  n8 : p.ph ≠ 8 → p.err = 0 ∧ p.vals = []
  a0 : p.ph = 2 ∨ p.ph = 5 → p.at_ = 0
/-- Others' steps leave it. -/
theorem RO.frame {p : RP} {n : Nat} {H H' : Hall} {x : OpD} {L : Tbl} {tn : Int} (r : RO p H x L tn) (rk : RK n p) (hc : H'.c = H.c) (hv : ∀ s, s < n → Vm (H.ss s) (H'.ss s)) (hh : ∀ s, p.holds s → s < n → H'.ss s = H.ss s) : RO p H' x L tn := by
  refine ⟨r.us, by rw [hc]; exact r.of, r.ss, by rw [hc]; exact r.lc, fun j hj hph => ?_, r.t3, r.va, fun h6 => ?_, r.k7, r.f8, r.n8, r.a0⟩
  · obtain ⟨e1, e2⟩ := r.e j hj hph
    have hsn : p.ss[j] < n := rk.ss _ (List.getElem_mem _)
    have v := hv _ hsn
    have hle := v.v
    refine ⟨by omega, fun hcl => ?_⟩
    obtain ⟨c1, c2, c3⟩ := hcl
    have hve : (H.ss p.ss[j]).v = p.ep j := by omega
    have hb := v.b
    have hcl' : clean H p.ss[j] (p.ep j) := ⟨hve, c2, by omega⟩
    obtain ⟨f1, f2⟩ := e2 hcl'
    have hsn := v.q (by omega) (by rw [hve]; exact c2) (by omega)
    exact ⟨fun h => by rw [hsn]; exact f1 h, f2⟩
  · obtain ⟨a, b, c⟩ := r.k6 h6
    exact ⟨a, fun s hs => by rw [hh s (.inr (.inl ⟨.inr h6, hs⟩)) (rk.ss s hs)]; exact b s hs, c⟩
end Go.Den
namespace Go.Proofs.YtcnphhhcknhhaaaGreat
open Go Go.Den Go.MapKept
set_option linter.unusedSimpArgs false
set_option linter.unusedVariables false
set_option maxRecDepth 20000
def swC (st ro : Nat) (v : Value) : List Value := [.int .i64 st, .int .i64 ro, v]
structure SwX (T : Tags) (h : Heap) (g : Tag) (q : Nat) (p : SwP) (np : Nat) : Prop where
  hp : h q = some (.cells (swC p.stripe p.rounds (ptr np)).toArray ty_sweep_Proc (0, 0))
  tp : T q = g ++ [0]
  nw : WPR T h (g ++ [1]) np p.now
def SwR (T : Tags) (h : Heap) (g : Tag) (q : Nat) (p : SwP) : Prop := ∃ np, SwX T h g q p np
theorem SwX.kp {U : Tag → Prop} {T T' : Tags} {h h' : Heap} {g : Tag} {q : Nat} {p : SwP} {np : Nat} (x : SwX T h g q p np) (k : Kp U T h T' h') (o : Off U g) (n : ¬ U []) : SwX T' h' g q p np :=
  ⟨(k.at x.hp x.tp (o.at _)).1, (k.at x.hp x.tp (o.at _)).2, x.nw.kp k (o.app _) n⟩
theorem SwR.kp {U : Tag → Prop} {T T' : Tags} {h h' : Heap} {g : Tag} {q : Nat} {p : SwP} (x : SwR T h g q p) (k : Kp U T h T' h') (o : Off U g) (n : ¬ U []) : SwR T' h' g q p := by
  obtain ⟨np, x⟩ := x
  exact ⟨np, x.kp k o n⟩
section
variable {T : Tags} {h : Heap} {g gh : Tag} {q hp : Nat} {p : SwP} {H : Hall} {K : Value → Heap → Prop}
end
end Go.Proofs.YtcnphhhcknhhaaaGreat
namespace Go.Den
open Go
set_option linter.unusedVariables false
def wo (h : Heap) (l : List Nat) : Heap := fun q => if q ∈ l then none else h q
theorem wo_out {h : Heap} {l : List Nat} {q : Nat} (hq : q ∉ l) : wo h l q = h q := if_neg hq
theorem wo_ext {F h : Heap} {l : List Nat} (e : Ext F h) (hl : ∀ q ∈ l, F q = none) : Ext F (wo h l) := fun b o hb => by
  rw [wo_out (fun hm => by rw [hl b hm] at hb; cases hb)]; exact e b o hb
theorem wo_get {h : Heap} {l : List Nat} {q : Nat} {o : Obj} (e : wo h l q = some o) : q ∉ l ∧ h q = some o := by
  unfold wo at e
  split at e
  · cases e
  · rename_i hq; exact ⟨hq, e⟩
theorem wo_keep {h h' h'' : Heap} {l : List Nat} {b : Nat} (e : Ext (wo h l) h') (hb : h b = none) (k : Keep (some b) h' h'') : Ext (wo h l) h'' := fun q o hq => by
  refine k q o (e q o hq) fun hh => ?_
  cases hh
  rw [(wo_get hq).2] at hb; cases hb
/-- Writes to the blocks that are left out. -/
theorem wo_upd {h h' : Heap} {l : List Nat} {b : Nat} {o : Obj} (e : Ext (wo h l) h') (hb : b ∈ l) : Ext (wo h l) (upd h' b o) := fun q x hq => by
  rw [upd_ne (fun hh => (wo_get hq).1 (by rw [hh]; exact hb))]; exact e q x hq
theorem ext_wo {h0 h h' : Heap} {l : List Nat} (e0 : Ext h0 h) (hl : ∀ q ∈ l, h0 q = none) (e : Ext (wo h l) h') : Ext h0 h' := (wo_ext e0 hl).trans e
end Go.Den
namespace Go.Proofs.YtcnphhhcknhhaaaGreat
open Go Go.Den Go.MapKept
set_option linter.unusedSimpArgs false
set_option linter.unusedVariables false
set_option maxRecDepth 20000
def small : Cfg := ⟨3, 2, 16, 4, 1, 100, 0⟩
theorem bdSmall : bdV (binf P ty_api_Config) [(0, .int .i64 3), (1, .int .i64 2), (2, .int .i64 16), (3, .int .i64 4), (4, .int .i64 1), (5, .int .u64 100)] = some (.agg (cfgC small).toArray) := by kernel_rfl
theorem smallW : CfgW small := by constructor <;> simp [small, I64, U64]
theorem small_ok {h : Heap} {K : Value → Heap → Prop} (hk : ∀ h', Ext h h' → K (.agg (cfgC small).toArray) h') : callM P fn_doormanlaw10_Small #[] h K := by
  apply e_doormanlaw10_Small
  unfold d_doormanlaw10_Small
  rw [zcCfg, bdSmall]
  simp -implicitDefEqProofs only [nwM_s]
  intro v1 n1
  simp -implicitDefEqProofs [stm_upd, ld_same, cel_same, over, cfgC]
  exact hk _ (Ext.upd n1 _)
theorem zcOp : zc P ty_api_Op = some #[.int .i64 0, .string ⟨#[]⟩, .int .i64 0, .int .i64 0, .int .i64 0, .int .u64 0, .slice none 0 0] := by kernel_rfl
end Go.Proofs.YtcnphhhcknhhaaaGreat
namespace Go.Den
open Go
set_option linter.unusedVariables false
set_option linter.unusedSimpArgs false
theorem evn_u {b : Int} (hb : U64 b) : U64 (evn b) := by unfold U64 evn at *; omega
theorem HG.hall0 {c : Cfg} (cw : CfgW c) (hr : rightB c = true) : HG (hall0 c c.stripes.toNat) := by
  have h8 : 1 ≤ c.stripes ∧ c.stripes ≤ 8 := by simp [rightB] at hr; omega
  exact ⟨by simp [Den.hall0]; omega, by simp [Den.hall0], fun s _ => ⟨BkG.nil, BkG.nil⟩, fun s _ => ⟨by simp [Den.hall0, strp0, U64], by simpa [Den.hall0, strp0] using evn_u cw.u1⟩, fun s _ => by simp [Den.hall0, strp0], cw, h8.2⟩
theorem stripesOf_lt {us : List ByteArray} {n : Int} (hn : 1 ≤ n) : ∀ s ∈ stripesOf us n, (s : Int) < n := by
  intro s hs
  simp only [stripesOf, List.mem_filter, inS, List.any_eq_true, decide_eq_true_eq] at hs
  obtain ⟨_, u, _, hu⟩ := hs
  rw [← hu]
  unfold stripeOf
  rw [if_neg (by omega)]
  exact Int.emod_lt_of_pos _ (by omega)
theorem stripesOf_pos {us : List ByteArray} {n : Int} (hn : 1 ≤ n) (h8 : n ≤ 8) (hu : us ≠ []) : 0 < (stripesOf us n).length := by
  obtain ⟨u, us', rfl⟩ := List.exists_cons_of_ne_nil hu
  refine List.length_pos_of_mem (a := (stripeOf u n).toNat) ?_
  have h : 0 ≤ stripeOf u n ∧ stripeOf u n < n := by
    unfold stripeOf
    rw [if_neg (by omega)]
    exact ⟨Int.emod_nonneg _ (by omega), Int.emod_lt_of_pos _ (by omega)⟩
  simp only [stripesOf, List.mem_filter, List.mem_range, inS, List.any_cons, Bool.or_eq_true, decide_eq_true_eq]
  exact ⟨by omega, .inl (by omega)⟩
theorem stripesOf_le (us : List ByteArray) (n : Int) : (stripesOf us n).length ≤ 8 := by
  have := List.length_filter_le (inS us n) (List.range 8)
  simpa [stripesOf] using this
theorem usersOf_bad {x : OpD} (h : badB x = false) (hk : x.kind = 4 ∨ x.kind = 5) : usersOf x ≠ [] ∧ (usersOf x).length ≤ 8 := by
  unfold badB at h
  unfold usersOf
  rcases hk with hk | hk
  · simp [hk]
  · simp [hk] at h ⊢
    constructor
    · intro e; rw [e] at h; simp at h
    · omega
theorem RK.rp0 {H : Hall} (hg : HG H) (hn : H.n = H.c.stripes.toNat) (h1 : 1 ≤ H.c.stripes) (tr : 0 ≤ H.c.retries ∧ H.c.retries ≤ 4) (who : Int) (hw : -1000 ≤ who ∧ who ≤ 900) (x : OpD) (hx : badB x = false → (usersOf x).length ≤ 8) : RK H.n (rp0 H who x) := by
  have hul : (if badB x then ([] : List ByteArray) else usersOf x).length ≤ 8 := by
    cases hb : badB x with
    | true => simp
    | false => simpa using hx hb
  have c8 := hg.c8
  refine ⟨⟨by simp only [Den.rp0, RP.begin]; omega, by simp only [Den.rp0, RP.begin]; omega, stripesOf_le _ _, tr, by simp [Den.rp0, RP.begin], fun i b h => by simp [Den.rp0, RP.begin] at h⟩, fun _ h0 => by simpa [Den.rp0, RP.begin, RP.k] using List.length_pos_iff.2 h0, fun s hs => ?_, fun _ => rfl, by simp [Den.rp0, RP.begin], fun _ => .inl rfl, fun i _ => by simp [Den.rp0, RP.begin, U64], hw⟩
  have := stripesOf_lt h1 s hs
  omega
theorem Tr.start {c : Cfg} {who : Int} {x : OpD} (hb : badB x = false) (hk : x.kind = 4 ∨ x.kind = 5) (h1 : 1 ≤ c.stripes) (h8 : c.stripes ≤ 8) : Tr c (stripesOf (usersOf x) c.stripes) (usersOf x) 0 (rp0 (hall0 c c.stripes.toNat) who x) (hall0 c c.stripes.toNat) := by
  have hu := usersOf_bad hb hk
  refine .a ⟨by simp [rp0, RP.begin, hb, hall0], rfl, fun _ => rfl, rfl, rfl, fun _ => rfl, by simp [rp0, RP.begin, hb], rfl⟩ (fun _ => rfl) (stripesOf_pos h1 h8 hu.1) rfl rfl rfl (by simp [rp0, RP.begin])
end Go.Den
namespace Go.Proofs.YtcnphhhcknhhaaaGreat
open Go Go.Den Go.MapKept
set_option linter.unusedSimpArgs false
set_option linter.unusedVariables false
set_option maxRecDepth 20000
theorem g1 : Gd [1] := ⟨0, [], rfl⟩
theorem g2 : Gd [2] := ⟨1, [], rfl⟩
end Go.Proofs.YtcnphhhcknhhaaaGreat
namespace Go.Proofs.YtcnphhhcknhhaaaGreat
open Go Go.Den Go.MapKept
set_option linter.unusedSimpArgs false
set_option linter.unusedVariables false
set_option maxRecDepth 20000
def heOp (x : OpD) : OpD := { x with kind := 6 + x.kind % 4 }
theorem heOp_w {x : OpD} (w : OpW x) : OpW (heOp x) := ⟨(by show I64 (6 + x.kind % 4); unfold I64; omega), w.i2, w.i3, w.i4, w.u1, w.s1⟩
theorem heOp_k (x : OpD) : 6 ≤ (heOp x).kind ∧ (heOp x).kind ≤ 9 := by
  show 6 ≤ 6 + x.kind % 4 ∧ 6 + x.kind % 4 ≤ 9
  omega
theorem heeding_ok (x : OpD) {h : Heap} {v : Value} (ho : One v) {K : Value → Heap → Prop} (hk : ∀ h', Ext h h' → K (.agg (opC (heOp x) v).toArray) h') : callM P fn_doormanlaw17_heeding #[.agg (opC x v).toArray] h K := by
  apply e_doormanlaw17_heeding
  unfold d_doormanlaw17_heeding
  refine nw_agg fun v1 h1 n1 e1 c1 => ?_
  rw [zcOp]
  refine nw_intro fun v3 h3 n3 e3 c3 => ?_
  have ne := ne_fresh c1 n3
  have c1 := e3 _ _ c1
  simp -implicitDefEqProofs only [opC] at c1
  have m1 := tmod_rng x.kind (show (0 : Int) < 4 by omega)
  have m2 := Int.mul_tdiv_add_tmod x.kind 4
  have e2 : (x.kind.tmod 4 + 4).tmod 4 = x.kind % 4 := by rw [tmod_pos (by omega)]; omega
  have w1 : IntKind.i64.wrap (x.kind.tmod 4 + 4) = x.kind.tmod 4 + 4 := wrap64_id (by omega) (by omega)
  have w2 : IntKind.i64.wrap (6 + x.kind % 4) = 6 + x.kind % 4 := wrap64_id (by omega) (by omega)
  simp -implicitDefEqProofs [ld_at c1, cel_of c1, stm_at c1, ld_at c3, cel_of c3, stm_at c3, stm_skip ne, stm_skip (Ne.symm ne), ld_skip ne, ld_skip (Ne.symm ne), cel_skip ne, cel_skip (Ne.symm ne), stm_upd, ld_same, cel_same, over, w1, e2, w2, ho.1, ho.2]
  refine kv (hk _ ?_) rfl
  exact ext_upd n1 (ext_upd (fresh_of e1 n3) (e1.trans e3))
end Go.Proofs.YtcnphhhcknhhaaaGreat
namespace Go.Proofs.YtcnphhhcknhhaaaGreat
open Go Go.Den Go.MapKept
set_option linter.unusedSimpArgs false
set_option linter.unusedVariables false
set_option maxRecDepth 20000
theorem ext_of_only {U : Tag → Prop} {h : Heap} {T' : Tags} {h' : Heap} (o : Only U (fun _ => []) h T' h') (u : ¬ U []) : Ext h h' := by
  have := (o.ext u).trans (fz_ext _ _)
  rw [fz_nil] at this; exact this
def c2 : Cfg := ⟨2, 2, 16, 4, 1, 100, 0⟩
theorem cfg_nn {c : Cfg} (h : rightB c = true) : ((c.stripes.toNat : Nat) : Int) = c.stripes ∧ 0 < c.stripes.toNat := by
  simp -implicitDefEqProofs only [rightB, decide_eq_true_eq] at h; omega
end Go.Proofs.YtcnphhhcknhhaaaGreat
namespace Go.Den
open Go
set_option linter.unusedVariables false
set_option linter.unusedSimpArgs false
/-- A process that has nothing and owes nothing. -/
structure Idle (p : PR) (m : Mine) (c : Cfg) : Prop where
  h : ∀ s, ¬ p.holds s
  e : p.em m c = m
theorem PR.done_w {p : WP} (h : p.done = true) : 7 ≤ p.at_ := by simpa [WP.done] using h
theorem Idle.done {n i : Nat} {c : Cfg} {p : PR} {m : Mine} (g : PA n i c p) (hd : p.done = true) (h1 : 1 ≤ n) : Idle p m c := by
  cases p with
  | w p =>
    have h7 := PR.done_w (p := p) hd
    exact ⟨fun s hs => by have := hs.2.2.1; omega, rfl⟩
  | r p =>
    have h8 : p.ph = 8 := by simpa [PR.done] using hd
    exact ⟨fun s => RP.nh (by omega) (by omega) (by omega) (by omega), rfl⟩
  | h p =>
    have hd' : p.steps ≤ p.at_ := by simpa [PR.done, HP.done] using hd
    have hk := g.1.k
    by_cases ho : p.one = true
    · refine ⟨fun s hs => ?_, ?_⟩
      · have := hs.1; rw [ho] at this; cases this
      · show p.em m c = m
        rw [HP.em_def, if_neg (by simp [ho])]
    · have ho : p.one = false := by simpa using ho
      have hb : badB p.x = false := by simp [HP.one] at ho; exact ho.1
      have h9 : p.x.kind ≠ 9 := by simp [HP.one] at ho; exact ho.2
      by_cases h8 : p.x.kind = 8
      · have := (HP.poll_of hb h8).2
        refine ⟨fun s hs => ?_, ?_⟩
        · have h2 := hs.2; rw [if_pos h8] at h2; omega
        · show p.em m c = m
          rw [HP.em_def, if_neg (by simp [h8])]
      · have := (HP.kind_of hb h9 h8).2
        refine ⟨fun s hs => ?_, ?_⟩
        · have h2 := hs.2; rw [if_neg h8] at h2; omega
        · show p.em m c = m
          rw [HP.em_def, if_neg (by omega)]
theorem Idle.w {p : WP} (m : Mine) (c : Cfg) (h : p.at_ = 0) : Idle (.w p) m c := ⟨fun s hs => by have := hs.2.1; omega, rfl⟩
theorem Idle.r {p : RP} (m : Mine) (c : Cfg) (h : p.ph = 0) : Idle (.r p) m c := ⟨fun s => RP.nh (by omega) (by omega) (by omega) (by omega), rfl⟩
theorem Idle.hh {p : HP} (m : Mine) (c : Cfg) (h : p.at_ = 0) : Idle (.h p) m c := by
  refine ⟨fun s hs => ?_, ?_⟩
  · have h2 := hs.2
    split at h2 <;> omega
  · show p.em m c = m
    rw [HP.em_def, if_neg (by omega)]
def wd0 (c : Cfg) (n : Nat) : Wd := ⟨hall0 c n, fun _ => none, fun _ => []⟩
theorem LI.init {c : Cfg} {n : Nat} : LI (wd0 c n) (tbl0 c n) := by
  refine ⟨rfl, rfl, rfl, fun s hs => .inl ⟨rfl, rfl, rfl, rfl⟩, fun i p s _ h => by simp [wd0] at h, fun i p h => by simp [wd0] at h, ⟨fun i hi => ?_, fun s i u hs hi hu => ?_⟩⟩
  · have : allWs (tbl0 c n) i = [] := by
      unfold allWs
      rw [List.flatMap_eq_nil_iff]
      intro s _
      rfl
    rw [this]; exact List.Perm.refl _
  · simp [tbl0, feed0, wsOf] at hu
theorem TS.init {c : Cfg} (cw : CfgW c) (hr : rightB c = true) {n : Nat} (hn : (n : Int) = c.stripes) : TS 0 (tbl0 c n) := (HS.new cw hr hn).tbl
/-- A process begins, in the place of one that is done, or of none. -/
theorem LI.start {W : Wd} {M : Tbl} (x : LI W M) {i : Nat} {p : PR} (hp : PA W.H.n i W.H.c p) (h0 : Idle p (W.ms i) W.H.c) (hi : ∀ q, W.ps i = some q → Idle q (W.ms i) W.H.c) : LI { W with ps := bset W.ps i (some p) } M := by
  have hP : ∀ j, bset W.ps i (some p) j = if j = i then some p else W.ps j := fun j => rfl
  refine ⟨x.t, x.c, x.n, fun s hs => ?_, fun j q s hs hq hh => ?_, fun j q hq => ?_, ?_⟩
  · rcases x.st s hs with h | ⟨j, q, h1, h2, h3, h4⟩
    · exact .inl h
    · have hji : j ≠ i := fun h => by subst h; exact (hi q h1).h s h2
      exact .inr ⟨j, q, by show bset _ _ _ _ = _; rw [hP, if_neg hji]; exact h1, h2, h3, h4⟩
  · have hq : bset W.ps i (some p) j = some q := hq
    rw [hP] at hq
    split at hq
    · simp only [Option.some.injEq] at hq; subst hq; exact absurd hh (h0.h s)
    · exact x.own j q s hs hq hh
  · have hq : bset W.ps i (some p) j = some q := hq
    rw [hP] at hq
    split at hq
    · rename_i h; simp only [Option.some.injEq] at hq; subst hq; subst h; exact hp
    · exact x.pa j q hq
  · refine x.ws.same rfl rfl (fun _ _ => rfl) fun j hj => ?_
    unfold Wd.em
    show (match bset W.ps i (some p) j with | some p => p.em (W.ms j) W.H.c | none => W.ms j) = _
    rw [hP]
    by_cases h : j = i
    · subst h
      rw [if_pos rfl]
      dsimp only
      rw [h0.e]
      cases hq : W.ps j with
      | none => rfl
      | some q => exact (hi q hq).e.symm
    · rw [if_neg h] <;> rfl
/-- What is no process's: acts, and the time. -/
theorem LI.other {W : Wd} {M M' : Tbl} {H' : Hall} (x : LI W M) (h1 : H'.ss = W.H.ss) (h2 : H'.c = W.H.c) (h3 : H'.n = W.H.n) (t : M'.t = H'.t) (m1 : M'.c = M.c) (m2 : M'.n = M.n) (m3 : M'.bk = M.bk) (m4 : M'.fd = M.fd) : LI { W with H := H' } M' := by
  have hst : ∀ s, M'.st s = M.st s := fun s => by simp [Tbl.st, m3, m4]
  refine ⟨t, m1.trans (x.c.trans h2.symm), m2.trans (x.n.trans h3.symm), fun s hs => ?_, fun j q s hs hq hh => ?_, fun j q hq => ?_, ?_⟩
  · have hs : s < W.H.n := by rw [← h3]; exact hs
    show Free (H'.ss s) _ ∨ _
    rw [hst, h1]
    rcases x.st s hs with h | ⟨j, q, g1, g2, g3, g4⟩
    · exact .inl h
    · exact .inr ⟨j, q, g1, g2, g3, by show Held q (W.ms j) H'.c s _ _; rw [h2]; exact g4⟩
  · show (H'.ss s).who = _
    rw [h1]; exact x.own j q s (by rw [← h3]; exact hs) hq hh
  · show PA H'.n j H'.c q
    rw [h2, h3]; exact x.pa j q hq
  · refine x.ws.same m2 m1 (fun s _ => by rw [m4]) fun j hj => ?_
    unfold Wd.em
    show (match W.ps j with | some p => p.em (W.ms j) H'.c | none => W.ms j) = _
    rw [h2] <;> rfl
theorem LI.did {W : Wd} {M : Tbl} (x : LI W M) (w k p : Int) : LI { W with H := W.H.did w k p } M := x.other rfl rfl rfl x.t rfl rfl rfl rfl
/-- Where nobody has a lock, the table is the hall's, and all is quiet. -/
theorem LI.rest {W : Wd} {M : Tbl} (x : LI W M) {s : Nat} (hs : s < W.H.n) (h : ∀ i p, W.ps i = some p → ¬ p.holds s) : Free (W.H.ss s) (M.st s) := by
  rcases x.st s hs with h' | ⟨i, p, h1, h2, _⟩
  · exact h'
  · exact absurd h2 (h i p h1)
theorem LI.free_iff {W : Wd} {M : Tbl} (x : LI W M) {s : Nat} (hs : s < W.H.n) : (W.H.ss s).who = 0 ↔ ∀ i p, W.ps i = some p → ¬ p.holds s := by
  constructor
  · intro h i p hp hh
    have := x.own i p s hs hp hh; omega
  · intro h; exact (x.rest hs h).wh
end Go.Den
namespace Go.Proofs.YtcnphhhcknhhaaaGreat
open Go Go.Den Go.MapKept
set_option linter.unusedSimpArgs false
set_option linter.unusedVariables false
set_option maxRecDepth 20000
def UW (t : Tag) : Prop := pre [1] t ∨ pre [2] t
theorem UW.nil : ¬ UW [] := by rintro (h | h) <;> simp [pre] at h
theorem g2i (i : Nat) : Gd [2, i] := ⟨1, [i], rfl⟩
theorem d12i (i : Nat) : Off (pre [1]) [2, i] := off_pre (g := []) (x := [1]) (y := [2, i]) (by simp) (by simp)
theorem d2i1 (i : Nat) : Off (pre [2, i]) [1] := off_pre (g := []) (x := [2, i]) (y := [1]) (by simp) (by simp)
theorem d2ij {i j : Nat} (h : i ≠ j) : Off (pre [2, i]) [2, j] := off_pre (g := [2]) (x := [i]) (y := [j]) (by simpa using h) (by simpa using Ne.symm h)
def PRm (T : Tags) (h : Heap) (g : Tag) (q : Nat) : PR → Prop
  | .w p => WPR T h g q p
  | .r p => RPR T h g q p
  | .h _ => False
theorem PRm.kp {U : Tag → Prop} {T T' : Tags} {h h' : Heap} {g : Tag} {q : Nat} {p : PR} (x : PRm T h g q p) (k : Kp U T h T' h') (o : Off U g) (n : ¬ U []) : PRm T' h' g q p := by
  cases p with
  | w p => exact WPR.kp x k o n
  | r p => exact RPR.kp x k o n
  | h p => exact x
structure WdM (T : Tags) (h : Heap) (hp : Nat) (A : Nat → Nat) (W : Wd) : Prop where
  hl : HallR T h [1] hp W.H
  ps : ∀ i p, W.ps i = some p → PRm T h [2, i] (A i) p
theorem WdM.up {U : Tag → Prop} {T T' : Tags} {h h' : Heap} {hp : Nat} {A : Nat → Nat} {W : Wd} (x : WdM T h hp A W) (o : Only U T h T' h') (f : ∀ t, UW t → ¬ U t) (n : ¬ U []) : WdM T' h' hp A W :=
  ⟨x.hl.up o (fun t ht => f t (.inl ht)) n, fun i p hp => (x.ps i p hp).kp o.k (fun t ht => f t (.inr (pre_trans (g := [2]) (s := [i]) ht))) n⟩
theorem WdM.ext {T : Tags} {h h' : Heap} {hp : Nat} {A : Nat → Nat} {W : Wd} (x : WdM T h hp A W) (w : Wf T h) (e : Ext h h') : WdM T h' hp A W := x.up (Only.of_ext (U := non) w e) (fun _ _ h => h) (not_non _)
/-- What is kept beside. -/
structure WdK (k : Nat) (W : Wd) (M : Tbl) : Prop where
  li : LI W M
  hs : HS k W.H
  ts : TS k M
theorem WdK.step {k : Nat} {W : Wd} {M : Tbl} (x : WdK k W M) (hk : k < 100000) {i : Nat} {p : PR} (hp : W.ps i = some p) (n : Int) : WdK (k + 1) (W.step i n) (p.tb W.H M) :=
  have y := x.li.step x.hs hk x.ts hp n
  ⟨y.1, y.2.1, y.2.2⟩
theorem WdM.put {U : Tag → Prop} {T T' : Tags} {h h' : Heap} {hp i : Nat} {A : Nat → Nat} {W : Wd} {p : PR} (x : WdM T h hp A W) (o : Only U T h T' h') (u : ∀ j, j ≠ i → Off U [2, j]) (n : ¬ U []) {k : Int} (hp' : W.ps i = some p)
    (y' : HallR T' h' [1] hp (p.step (W.ms i) W.H k).2.2) (x' : PRm T' h' [2, i] (A i) (p.step (W.ms i) W.H k).1) : WdM T' h' hp A (W.step i k) := by
  refine ⟨?_, fun j q hq => ?_⟩
  · have : (W.step i k).H = (p.step (W.ms i) W.H k).2.2 := by simp only [Wd.step, hp']
    rw [this]; exact y'
  · have hP : (W.step i k).ps j = if j = i then some (p.step (W.ms i) W.H k).1 else W.ps j := by simp only [Wd.step, hp', bset]
    rw [hP] at hq
    split at hq
    · rename_i hj; subst hj
      simp -implicitDefEqProofs only [Option.some.injEq] at hq; subst hq
      exact x'
    · rename_i hj
      exact (x.ps j q hq).kp o.k (u j hj) n
theorem wd0M {T : Tags} {h : Heap} {hp : Nat} {c : Cfg} {n : Nat} (x : HallR T h [1] hp (hall0 c n)) (A : Nat → Nat) : WdM T h hp A (wd0 c n) := ⟨x, fun i p h => by simp [wd0] at h⟩
theorem wd0K {c : Cfg} (cw : CfgW c) (hr : rightB c = true) {n : Nat} (hn : (n : Int) = c.stripes) : WdK 0 (wd0 c n) (tbl0 c n) := ⟨LI.init, HS.new cw hr hn, TS.init cw hr hn⟩
end Go.Proofs.YtcnphhhcknhhaaaGreat
namespace Go.Proofs.YtcnphhhcknhhaaaGreat
open Go Go.Den Go.MapKept
set_option linter.unusedSimpArgs false
set_option linter.unusedVariables false
set_option maxRecDepth 20000
def KyJ (hB : Heap) (v3 : Nat) (b : Book) (l b' i : Nat) (h' : Heap) : Prop :=
  ∃ kv, h' v3 = some (.cells #[kv] ty_Sl_string (0, 0)) ∧ Row 1 ty_string h' kv i (((keysB b).take i).flatMap strC1) ∧ Ext (wo hB [v3]) h' ∧ ∀ r, rowOf kv = some r → r ≠ v3 ∧ r ≠ l ∧ r ≠ b' ∧ hB r = none
theorem KyJ.keep {hB : Heap} {v3 : Nat} {b : Book} {l b' i : Nat} {h' h'' : Heap} (J : KyJ hB v3 b l b' i h') (hl' : hB l = none) (h3 : hB v3 ≠ none) (k : Keep (some l) h' h'') : KyJ hB v3 b l b' i h'' := by
  obtain ⟨kv, c, r, e, n⟩ := J
  refine ⟨kv, k _ _ c (fun hh => by cases hh; exact h3 hl'), r.of_at fun g hg => ?_, wo_keep e hl' k, n⟩
  obtain ⟨o, ho⟩ := r.lt g hg
  rw [ho]; exact k _ _ ho (fun hh => (n g hg).2.1 (by cases hh; rfl))
end Go.Proofs.YtcnphhhcknhhaaaGreat
namespace Go.Proofs.YtcnphhhcknhhaaaGreat
open Go Go.Den Go.MapKept
set_option linter.unusedSimpArgs false
set_option linter.unusedVariables false
set_option maxRecDepth 20000
theorem zcBool : zc P ty_bool = some #[.bool false] := by kernel_rfl
end Go.Proofs.YtcnphhhcknhhaaaGreat
namespace Go.Den
open Go
set_option linter.unusedVariables false
set_option linter.unusedSimpArgs false
def AR (W : Wd) (i : Nat) : Prop := ∀ j q, j ≠ i → W.ps j = some q → ∀ s, ¬ q.holds s
def wkOf (x : OpD) : WK := if badB x then .bad else .op x
theorem wkOf_bad (x : OpD) : (wkOf x).isBad = badB x := by unfold wkOf; split <;> simp_all [WK.isBad]
def wPl (x : OpD) (k : Nat) : Bool := if badB x then decide (0 < k) else decide (2 < k)
structure AW (i k : Nat) (W : Wd) (M M0 : Tbl) (x : OpD) (p : WP) : Prop where
  hp : W.ps i = some (.w p)
  ar : AR W i
  kk : p.k = wkOf x
  at_ : p.at_ = if badB x then (if k = 0 then 0 else 7) else k
  m : M = if wPl x k then ((wkOf x).bef p.s M0).1 else M0
  po : WO p W.H (if wPl x k then ((wkOf x).bef p.s M0).2 else rep0)
theorem AR.step {W : Wd} {i : Nat} (x : AR W i) (n : Int) : AR (W.step i n) i := fun j q hj hq => by
  unfold Wd.step at hq
  split at hq
  · simp only [bset_ne hj] at hq; exact x j q hj hq
  · exact x j q hj hq
theorem AW.en {i k : Nat} {W : Wd} {M M0 : Tbl} {x : OpD} {p : WP} (a : AW i k W M M0 x p) (li : LI W M) (hk : k < 7) : p.enabled W.H = true ↔ (badB x = true → k = 0) := by
  have hg := (li.pa i _ a.hp).1
  have hat := a.at_
  unfold WP.enabled WP.done WP.waits
  rw [a.kk, wkOf_bad]
  by_cases hb : badB x = true
  · by_cases h0 : k = 0
    · simp [hb, h0, hat]
    · simp [hb, h0, hat]
  · have hb : badB x = false := by simpa using hb
    simp only [hb, Bool.false_eq_true, if_false] at hat
    simp only [hb, Bool.false_eq_true, false_or, false_implies, iff_true]
    by_cases h0 : 0 < p.at_
    · simp [h0]; omega
    · have hf : (W.H.ss p.s).who = 0 := (li.free_iff hg.s).2 fun j q hq hh => by
        by_cases hj : j = i
        · subst hj
          rw [a.hp] at hq; cases hq
          have := hh.2.1; omega
        · exact a.ar j q hj hq _ hh
      simp [h0, hf]; omega
theorem AW.step {i k m j : Nat} {W : Wd} {M M0 : Tbl} {x : OpD} {p : WP} (a : AW i k W M M0 x p) (li : LI W M) (hs : HS m W.H) (ts : TS j M) (hk : k < 7) (n : Int) :
    AW i (k + 1) (W.step i n) ((PR.w p).tb W.H M) M0 x (p.step W.H n).1 := by
  have hen := a.en li hk
  have hst : W.step i n = ⟨(p.step W.H n).2, bset W.ps i (some (.w (p.step W.H n).1)), bset W.ms i (W.ms i)⟩ := by simp only [Wd.step, a.hp, PR.step]
  have hk3 := wstep_k p W.H n
  have po := li.po_step hs ts a.hp n (r := if wPl x k then ((wkOf x).bef p.s M0).2 else rep0) a.po
  have po : WO (p.step W.H n).1 (p.step W.H n).2 (if p.enabled W.H = true ∧ p.places = true then (p.k.bef p.s M).2 else (if wPl x k then ((wkOf x).bef p.s M0).2 else rep0)) := po
  have hm := a.m
  have hat := a.at_
  refine ⟨by rw [hst]; exact bset_same _ _ _, a.ar.step n, by rw [hk3.1]; exact a.kk, ?_, ?_, ?_⟩
  · by_cases he : p.enabled W.H = true
    · have hc := hen.1 he
      by_cases hb : badB x = true
      · have hkb : p.k.isBad = true := by rw [a.kk, wkOf_bad]; exact hb
        simp [hb, WP.step, he, hkb]
      · have hkb : p.k.isBad = false := by rw [a.kk, wkOf_bad]; simpa using hb
        have e1 : p.step W.H n = p.stp W.H n := by simp [WP.step, he, hkb]
        rw [e1, stp_at p W.H n (enabled_at he), hat]
        simp [hb]
    · have e1 : p.step W.H n = (p, W.H) := by simp [WP.step, he]
      rw [e1, hat]
      have : badB x = true ∧ k ≠ 0 := by
        rw [hen] at he
        by_cases hb : badB x = true
        · exact ⟨hb, fun h => he fun _ => h⟩
        · exact absurd (fun h => absurd h hb) he
      simp [this]
  · rw [hk3.2.2]
    simp only [PR.tb, PR.enabled, PR.places, PR.bef, WP.places, a.kk, wkOf_bad, Bool.or_eq_true, decide_eq_true_eq]
    by_cases hb : badB x = true
    · by_cases h0 : k = 0
      · rw [if_pos ⟨hen.2 fun _ => h0, .inl hb⟩, hm]; simp [wPl, hb, h0]
      · rw [if_neg (fun h => h0 (hen.1 h.1 hb)), hm]; simp [wPl, hb]; omega
    · have hb : badB x = false := by simpa using hb
      simp only [hb, Bool.false_eq_true, if_false] at hat
      by_cases h2 : k = 2
      · rw [if_pos ⟨hen.2 (by simp [hb]), .inr (by omega)⟩, hm]; simp [wPl, hb, h2]
      · rw [if_neg (by rw [hb, hat]; simp [h2]), hm]
        by_cases h3 : 2 < k
        · simp [wPl, hb, h3]; omega
        · have : ¬ 2 < k + 1 := by omega
          simp [wPl, hb, h3, this]
  · have hWH : (W.step i n).H = (p.step W.H n).2 := by rw [hst]
    rw [hk3.2.2, hWH]
    simp only [WP.places, a.kk, wkOf_bad, Bool.or_eq_true, decide_eq_true_eq] at po
    by_cases hb : badB x = true
    · by_cases h0 : k = 0
      · rw [if_pos ⟨hen.2 fun _ => h0, .inl hb⟩, hm] at po; simpa [wPl, hb, h0] using po
      · rw [if_neg (fun h => h0 (hen.1 h.1 hb))] at po
        have : 0 < k := by omega
        simpa [wPl, hb, this] using po
    · have hb : badB x = false := by simpa using hb
      simp only [hb, Bool.false_eq_true, if_false] at hat
      by_cases h2 : k = 2
      · rw [if_pos ⟨hen.2 (by simp [hb]), .inr (by omega)⟩, hm] at po; simpa [wPl, hb, h2] using po
      · rw [if_neg (by rw [hb, hat]; simp [h2])] at po
        by_cases h3 : 2 < k
        · have : 2 < k + 1 := by omega
          simpa [wPl, hb, h3, this] using po
        · have : ¬ 2 < k + 1 := by omega
          simpa [wPl, hb, h3, this] using po
/-- Its beginning. -/
theorem AW.init {W : Wd} {i : Nat} (ar : AR W i) (M : Tbl) (x : OpD) (s : Nat) : AW i 0 { W with ps := bset W.ps i (some (.w (sect i s (wkOf x)))) } M M x (sect i s (wkOf x)) :=
  ⟨bset_same _ _ _, fun j q hj hq => ar j q hj (by rw [← hq]; exact (bset_ne hj).symm), rfl, by simp [sect], by simp [wPl], ⟨fun _ => .inl rfl, fun _ h => by simp [sect] at h⟩⟩
theorem AW.done {i : Nat} {W : Wd} {M M0 : Tbl} {x : OpD} {p : WP} (a : AW i 7 W M M0 x p) : p.done = true ∧ (∀ j q, W.ps j = some q → ∀ s, ¬ q.holds s) ∧ M = ((wkOf x).bef p.s M0).1 ∧ repE p.err = ((wkOf x).bef p.s M0).2 := by
  have hat : p.at_ = 7 := by have := a.at_; split at this <;> simpa using this
  have hpl : wPl x 7 = true := by unfold wPl; split <;> simp
  refine ⟨by simp [WP.done, hat], fun j q hq s hh => ?_, by have := a.m; rwa [if_pos hpl] at this, ?_⟩
  · by_cases hj : j = i
    · subst hj
      rw [a.hp] at hq; cases hq
      have := hh.2.2.1; omega
    · exact a.ar j q hj hq s hh
  · have po := a.po
    rw [if_pos hpl] at po
    by_cases hb : p.k.isBad = true
    · rcases po.b hb with h | h
      · omega
      · rw [h.2.2, h.2.1]
    · have := po.g (by simpa using hb) (by omega)
      rw [if_neg (by omega)] at this
      exact this.symm
/-- The sweeper. -/
structure SL (N k : Nat) (p : SwP) (W : Wd) : Prop where
  hp : W.ps 8 = some (.w p.now)
  sa : SwA N k p W.H
  ar : AR W 8
theorem SL.init {W : Wd} {N : Nat} {M : Tbl} (li : LI W M) (ar : ∀ j q, W.ps j = some q → ∀ s, ¬ q.holds s) (hn : W.H.n = N) (n0 : 0 < N) : SL N 0 SwP.new { W with ps := bset W.ps 8 (some (.w SwP.new.now)) } :=
  ⟨bset_same W.ps 8 (some (.w SwP.new.now)), SwA.new hn n0 fun s hs => (li.free_iff (by omega)).2 fun i q hq => ar i q hq s, fun j q hj hq => ar j q (by rw [← hq]; exact (bset_ne hj).symm)⟩
theorem SL.start {W : Wd} {M : Tbl} (li : LI W M) (ar : ∀ q, W.ps 8 = some q → Idle q (W.ms 8) W.H.c) {s : Nat} (hs : s < W.H.n) : LI { W with ps := bset W.ps 8 (some (.w (sect 8 s .sweep))) } M := by
  refine li.start ⟨sect_g hs (by omega) (by simp), rfl, by simp [sect], by simp [sect]⟩ (Idle.w _ _ rfl) ar
theorem SL.step {N k m j : Nat} {p : SwP} {W : Wd} {M : Tbl} (x : SL N k p W) (li : LI W M) (hs : HS m W.H) (hm : m < 100000) (ts : TS j M) (n : Int) :
    ∃ W', W'.H = (p.step W.H n).2.1 ∧ SL N (k + 1) (p.step W.H n).1 W' ∧ LI W' (if k % 7 = 2 then M.sweep (k / 7 % N : Nat) else M) ∧ HS (m + 1) W'.H ∧ TS (j + 1) (if k % 7 = 2 then M.sweep (k / 7 % N : Nat) else M) := by
  have sa := x.sa
  obtain ⟨s1, s2, s3⟩ := sa.step n
  have hen := sa.en
  have hb : p.now.k.isBad = false := by rw [sa.kk]; rfl
  obtain ⟨l1, l2, l3⟩ := li.step hs hm ts x.hp n
  have htb : (PR.w p.now).tb W.H M = if k % 7 = 2 then M.sweep (k / 7 % N : Nat) else M := by
    simp only [PR.tb, PR.enabled, PR.places, PR.bef, WP.places, sa.kk, WK.isBad, Bool.false_or, decide_eq_true_eq, sa.at_, hen, true_and, WK.bef, sa.e, sa.st]
  rw [htb] at l1 l3
  have hst : W.step 8 n = ⟨(p.now.step W.H n).2, bset W.ps 8 (some (.w (p.now.step W.H n).1)), bset W.ms 8 (W.ms 8)⟩ := by simp only [Wd.step, x.hp, PR.step]
  have hH : (W.step 8 n).H = (p.step W.H n).2.1 := by
    rw [hst]; unfold SwP.step; dsimp only; split <;> rfl
  by_cases h6 : (p.now.step W.H n).1.done = true
  · have hnw : ∃ s', s' < W.H.n ∧ (p.step W.H n).1.now = sect 8 s' .sweep := by
      have hps := sa.st
      have hn := sa.hn
      have := Nat.mod_lt (k / 7) sa.n0
      unfold SwP.step; dsimp only; rw [if_pos h6]
      unfold SwP.nxt; dsimp only
      split
      · exact ⟨0, by have := sa.n0; omega, rfl⟩
      · exact ⟨p.stripe + 1, by omega, rfl⟩
    obtain ⟨s', hs', hnw⟩ := hnw
    have hWn : (W.step 8 n).H.n = W.H.n := by rw [hst]; exact (wstep_n p.now W.H n).1
    refine ⟨{ W.step 8 n with ps := bset (W.step 8 n).ps 8 (some (.w (p.step W.H n).1.now)) }, hH, ⟨bset_same (W.step 8 n).ps 8 (some (.w (p.step W.H n).1.now)), by rw [show Wd.H _ = _ from hH]; exact s1, fun jj q hj hq => x.ar.step n jj q hj (by rw [← hq]; exact (bset_ne hj).symm)⟩, ?_, l2, l3⟩
    rw [hnw]
    refine SL.start l1 (fun q hq => ?_) (by omega)
    have hq : some (PR.w (p.now.step W.H n).1) = some q := by rw [← hq, hst]; exact (bset_same W.ps 8 _).symm
    cases hq
    refine Idle.done (n := W.H.n) (i := 8) ?_ h6 hs.n8.1
    have := l1.pa 8 (.w (p.now.step W.H n).1) (by rw [hst]; exact bset_same W.ps 8 _)
    rw [hWn] at this; exact this
  · refine ⟨W.step 8 n, hH, ⟨?_, by rw [hH]; exact s1, x.ar.step n⟩, l1, l2, l3⟩
    rw [hst]
    unfold SwP.step; dsimp only; rw [if_neg h6]
    exact bset_same W.ps 8 _
end Go.Den
namespace Go.Proofs.YtcnphhhcknhhaaaGreat
open Go Go.Den Go.MapKept
set_option linter.unusedSimpArgs false
set_option linter.unusedVariables false
set_option maxRecDepth 20000
def WrO (W : Wd) : Prop := ∀ j q, W.ps j = some q → (∃ p, q = .w p) ∧ ∀ s, ¬ q.holds s
structure RW (T0 : Tags) (h0 : Heap) (hp m N : Nat) (c : Cfg) (W : Wd) (M : Tbl) (T' : Tags) (h' : Heap) : Prop where
  o : Only UW T0 h0 T' h'
  x : ∃ A, WdM T' h' hp A W
  k : WdK m W M
  r : WrO W
  n : W.H.n = N
  c : W.H.c = c
theorem RW.hl {T0 : Tags} {h0 : Heap} {hp m N : Nat} {c : Cfg} {W : Wd} {M : Tbl} {T' : Tags} {h' : Heap} (y : RW T0 h0 hp m N c W M T' h') : HallR T' h' [1] hp W.H := let ⟨_, x⟩ := y.x; x.hl
theorem RW.ext {T0 : Tags} {h0 : Heap} {hp m N : Nat} {c : Cfg} {W : Wd} {M : Tbl} {T' : Tags} {h' h'' : Heap} (y : RW T0 h0 hp m N c W M T' h') (e : Ext h' h'') : RW T0 h0 hp m N c W M T' h'' :=
  ⟨y.o.up (Only.of_ext (U := non) y.o.wf e) non_up, let ⟨A, x⟩ := y.x; ⟨A, x.ext y.o.wf e⟩, y.k, y.r, y.n, y.c⟩
theorem RW.free {T0 : Tags} {h0 : Heap} {hp m N : Nat} {c : Cfg} {W : Wd} {M : Tbl} {T' : Tags} {h' : Heap} (y : RW T0 h0 hp m N c W M T' h') {s : Nat} (hs : s < N) : Free (W.H.ss s) (M.st s) :=
  y.k.li.rest (by rw [y.n]; exact hs) fun j q hq => (y.r j q hq).2 s
/-- The first world. -/
theorem RW.init {T : Tags} {h : Heap} {hp : Nat} {c : Cfg} (cw : CfgW c) (hr : rightB c = true) (w : Wf T h) (y : HallR T h [1] hp (hall0 c c.stripes.toNat)) : RW T h hp 0 c.stripes.toNat c (wd0 c c.stripes.toNat) (tbl0 c c.stripes.toNat) T h :=
  ⟨Only.refl w, ⟨fun _ => 0, wd0M y _⟩, wd0K cw hr (cfg_nn hr).1, fun j q h => by simp [wd0] at h, rfl, rfl⟩
def U3 (t : Tag) : Prop := UW t ∨ pre [3] t
theorem U3.nil : ¬ U3 [] := by rintro (h | h); exact UW.nil h; simp [pre] at h
theorem g3 : Gd [3] := ⟨2, [], rfl⟩
structure SqI (T0 : Tags) (h0 : Heap) (hp pp k m N : Nat) (c : Cfg) (M : Tbl) (T' : Tags) (h' : Heap) : Prop where
  o : Only U3 T0 h0 T' h'
  e : ∃ (W : Wd) (p : SwP), HallR T' h' [1] hp W.H ∧ SwR T' h' [3] pp p ∧ SL N k p W ∧ WdK m W M ∧ SwG N p ∧ W.H.c = c
theorem SqI.ext {T0 : Tags} {h0 : Heap} {hp pp k m N : Nat} {c : Cfg} {M : Tbl} {T' : Tags} {h' h'' : Heap} (y : SqI T0 h0 hp pp k m N c M T' h') (e : Ext h' h'') : SqI T0 h0 hp pp k m N c M T' h'' := by
  obtain ⟨o, W, p, hl, sw, r⟩ := y
  have oe : Only non T' h' T' h'' := Only.of_ext o.wf e
  exact ⟨o.up oe non_up, W, p, hl.up oe (Off.non _) (not_non _), sw.kp oe.k (Off.non _) (not_non _), r⟩
/-- Behind whole rounds all is at rest. -/
theorem SqI.rest {T0 : Tags} {h0 : Heap} {hp pp k m N : Nat} {c : Cfg} {M : Tbl} {T' : Tags} {h' : Heap} (y : SqI T0 h0 hp pp k m N c M T' h') (h7 : k % 7 = 0) : ∃ W p, HallR T' h' [1] hp W.H ∧ SwR T' h' [3] pp p ∧ WdK m W M ∧ W.H.n = N ∧ W.H.c = c ∧ (∀ s, s < N → Free (W.H.ss s) (M.st s)) ∧ p.rounds = k / 7 / N := by
  obtain ⟨o, W, p, hl, sw, sl, wk, sg, hc⟩ := y
  have hn := sl.sa.hn
  refine ⟨W, p, hl, sw, wk, hn, hc, fun s hs => wk.li.rest (by omega) fun j q hq => ?_, sl.sa.ro⟩
  by_cases hj : j = 8
  · subst hj
    rw [sl.hp] at hq; cases hq
    intro hh
    have := sl.sa.at_
    have := hh.2.1; omega
  · exact sl.ar j q hj hq s
/-- Another beginning. -/
theorem RW.base {U : Tag → Prop} {T0 : Tags} {h0 : Heap} {hp m N : Nat} {c : Cfg} {W : Wd} {M : Tbl} {T' T'' : Tags} {h' h'' : Heap} (y : RW T0 h0 hp m N c W M T' h') (o : Only U T' h' T'' h'') (f : ∀ t, UW t → ¬ U t) (n : ¬ U []) : RW T'' h'' hp m N c W M T'' h'' := by
  obtain ⟨A, x⟩ := y.x
  exact ⟨Only.refl o.wf, ⟨A, x.up o f n⟩, y.k, y.r, y.n, y.c⟩
theorem opsAt {F : Heap} {v : Value} {xs : List OpD} (x : Sl 7 OpR F v xs) {i : Nat} (hi : i < xs.length) : ∃ b p u, iaV (some (none, 7)) v (.int .i64 i) = some (.pointer (some ⟨b, p, none⟩)) ∧ (∀ h', Ext F h' → ldV (some (some 7)) (.pointer (some ⟨b, p, none⟩)) h' = some (.agg (opC xs[i] u).toArray)) ∧ Sl 1 StrR F u xs[i].users ∧ OpW xs[i] := by
  obtain ⟨b, o, c, i1, i2, i3⟩ := x.at (k := .i64) (i := i) (by omega) (by omega)
  obtain ⟨u, h1, h2, h3⟩ := i3
  simp -implicitDefEqProofs only [Int.toNat_natCast] at h1 h2 h3
  exact ⟨b, o, u, i1, fun h' e => by rw [ldV_n (cels_ext e i2), h1], h2, h3⟩
end Go.Proofs.YtcnphhhcknhhaaaGreat
namespace Go.Proofs.YtcnphhhcknhhaaaGreat
open Go Go.Den Go.MapKept
set_option linter.unusedSimpArgs false
set_option linter.unusedVariables false
set_option maxRecDepth 20000
def mdC (c : Cfg) (t : Tm) (bv fv : Value) : List Value := [.int .i64 c.stripes, .int .i64 c.sessions, .int .i64 c.queue, .int .i64 c.watches, .int .i64 c.retries, .int .u64 c.epochs, .int .u64 c.start, .int .u64 t.now, .int .u64 t.seq, .bool t.closed, bv, fv]
structure MdX (T : Tags) (h : Heap) (g : Tag) (p : Nat) (M : Tbl) (bv fv : Value) (K V : Nat → Value) (F : Nat → Nat) : Prop where
  hp : h p = some (.cells (mdC M.c M.t bv fv).toArray ty_model_Model (0, 0))
  tp : T p = g ++ [0]
  bk : Rw T h (g ++ [1]) 2 ty_omap_Map_string_doorman_book_Entry bv M.n (seqF M.n fun i => [K i, V i])
  fd : Rw T h (g ++ [2]) 1 ty_Ptr_feed_Feed fv M.n (seqF M.n fun i => [ptr (F i)])
  br : ∀ s, s < M.n → BookR (fz T h) (K s) (V s) (M.bk s)
  fr : ∀ s, s < M.n → FeedR T h (g ++ [3, s]) (F s) (M.fd s)
def MdR (T : Tags) (h : Heap) (g : Tag) (p : Nat) (M : Tbl) : Prop := ∃ bv fv K V F, MdX T h g p M bv fv K V F
theorem MdX.kp {U : Tag → Prop} {T T' : Tags} {h h' : Heap} {g : Tag} {p : Nat} {M : Tbl} {bv fv : Value} {K V : Nat → Value} {F : Nat → Nat} (x : MdX T h g p M bv fv K V F) (k : Kp U T h T' h') (o : Off U g) (n : ¬ U []) : MdX T' h' g p M bv fv K V F :=
  ⟨(k.at x.hp x.tp (o.at [0])).1, (k.at x.hp x.tp (o.at [0])).2, x.bk.kp k (o.at [1]), x.fd.kp k (o.at [2]), fun s hs => (x.br s hs).ext (k.ext n), fun s hs => (x.fr s hs).kp k (o.app [3, s]) n⟩
theorem MdR.kp {U : Tag → Prop} {T T' : Tags} {h h' : Heap} {g : Tag} {p : Nat} {M : Tbl} (x : MdR T h g p M) (k : Kp U T h T' h') (o : Off U g) (n : ¬ U []) : MdR T' h' g p M := by
  obtain ⟨bv, fv, K, V, F, x⟩ := x
  exact ⟨bv, fv, K, V, F, x.kp k o n⟩
theorem MdR.up {U : Tag → Prop} {T T' : Tags} {h h' : Heap} {g : Tag} {p : Nat} {M : Tbl} (x : MdR T h g p M) (k : Only U T h T' h') (o : Off U g) (n : ¬ U []) : MdR T' h' g p M := x.kp k.k o n
theorem MdX.same {T : Tags} {h : Heap} {g : Tag} {p : Nat} {M M' : Tbl} {bv fv : Value} {K V : Nat → Value} {F : Nat → Nat} (x : MdX T h g p M bv fv K V F) (h1 : M'.c = M.c) (h2 : M'.t = M.t) (h3 : M'.n = M.n) (h4 : M'.bk = M.bk) (h5 : M'.fd = M.fd) : MdX T h g p M' bv fv K V F := by
  cases M; cases M'; simp only at h1 h2 h3 h4 h5; subst h1 h2 h3 h4 h5; exact x
/-- The table's own block is written. -/
theorem MdX.st {T : Tags} {h : Heap} {g : Tag} {p : Nat} {M M' : Tbl} {bv fv : Value} {K V : Nat → Value} {F : Nat → Nat} (x : MdX T h g p M bv fv K V F) (w : Wf T h) (gg : Gd g) {c : Array Value} (hc : c = (mdC M'.c M'.t bv fv).toArray) (h3 : M'.n = M.n) (h4 : M'.bk = M.bk) (h5 : M'.fd = M.fd) :
    Only (fun t => t = g ++ [0]) T h T (upd h p (.cells c ty_model_Model (0, 0))) ∧ MdX T (upd h p (.cells c ty_model_Model (0, 0))) g p M' bv fv K V F := by
  have o : Only (fun t => t = g ++ [0]) T h T (upd h p (.cells c ty_model_Model (0, 0))) := Only.upd w x.hp x.tp
  refine ⟨o, by rw [upd_same', hc], x.tp, ?_, ?_, fun s hs => ?_, fun s hs => ?_⟩
  · rw [h3]; exact x.bk.kp o.k (ne_tag (by simp))
  · rw [h3]; exact x.fd.kp o.k (ne_tag (by simp))
  · rw [h4]; exact (x.br s (by rw [← h3]; exact hs)).ext (o.ext (by simp))
  · rw [h5]; exact (x.fr s (by rw [← h3]; exact hs)).kp o.k (off_eq (by simp)) (by simp)
/-- A feed has become another one. -/
theorem MdX.fed {T T' : Tags} {h h' : Heap} {g : Tag} {p : Nat} {M : Tbl} {bv fv : Value} {K V : Nat → Value} {F : Nat → Nat} (x : MdX T h g p M bv fv K V F) {s : Nat} {f : Feed} (o : Only (pre (g ++ [3, s])) T h T' h') (gg : Gd g) (r : FeedR T' h' (g ++ [3, s]) (F s) f) :
    MdX T' h' g p (M.fed s f) bv fv K V F := by
  have b := o.k.at x.hp x.tp (not_pre (by simp))
  have n : ¬ pre (g ++ [3, s]) [] := (gg.app _).nil
  refine ⟨b.1, b.2, x.bk.kp o.k (not_pre (by simp)), x.fd.kp o.k (not_pre (by simp)), fun i hi => (x.br i hi).ext (o.ext n), fun i hi => ?_⟩
  show FeedR T' h' _ _ (bset M.fd s f i)
  by_cases his : i = s
  · subst his; rw [bset_same]; exact r
  · rw [bset_ne his]; exact (x.fr i hi).kp o.k (off_pre (by simp; omega) (by simp; omega)) n
section
variable {T : Tags} {h : Heap} {g : Tag} {p m : Nat} {M : Tbl} {K : Value → Heap → Prop}
end
end Go.Proofs.YtcnphhhcknhhaaaGreat
namespace Go.Den
open Go
set_option linter.unusedVariables false
set_option linter.unusedSimpArgs false
theorem Tbl.sweep_at {M : Tbl} {s : Nat} (hs : s < M.n) : (M.sweep s).t.now = M.t.now ∧ (M.sweep s).t.closed = M.t.closed ∧ (M.sweep s).c = M.c ∧ (M.sweep s).n = M.n ∧ ∀ s', (M.sweep s).bk s' = if s' = s then (sweepB (M.bk s) M.t.now).1 else M.bk s' := by
  have hc : (0 : Int) ≤ s ∧ (s : Int) < M.n := by omega
  simp only [Tbl.sweep, if_pos hc, Int.toNat_natCast]
  exact ⟨rfl, rfl, rfl, rfl, fun s' => by simp only [Tbl.sweepAt, Tbl.take, bset]⟩
structure SwQ (M0 : Tbl) (N k : Nat) (M : Tbl) : Prop where
  t : M.t.now = M0.t.now
  c : M.c = M0.c
  n : M.n = M0.n
  bk : ∀ s, s < N → M.bk s = if s < (k + 4) / 7 then (sweepB (M0.bk s) M0.t.now).1 else M0.bk s
theorem SwQ.init (M : Tbl) (N : Nat) : SwQ M N 0 M := ⟨rfl, rfl, rfl, fun s _ => by simp⟩
theorem SwQ.step {M0 M : Tbl} {N k : Nat} (x : SwQ M0 N k M) (hn : M0.n = N) (hk : k < 7 * N) : SwQ M0 N (k + 1) (if k % 7 = 2 then M.sweep (k / 7 % N : Nat) else M) := by
  by_cases h : k % 7 = 2
  · rw [if_pos h]
    have hm : k / 7 % N = k / 7 := Nat.mod_eq_of_lt (by omega)
    rw [hm]
    have hs : k / 7 < M.n := by rw [x.n]; omega
    obtain ⟨a1, a2, a3, a4, a5⟩ := Tbl.sweep_at hs
    refine ⟨a1.trans x.t, a3.trans x.c, a4.trans x.n, fun s hsN => ?_⟩
    rw [a5, x.t]
    by_cases e : s = k / 7
    · subst e
      rw [if_pos rfl, if_pos (by omega), x.bk _ hsN, if_neg (by omega)]
    · rw [if_neg e, x.bk s hsN]
      by_cases h2 : s < (k + 4) / 7
      · rw [if_pos h2, if_pos (by omega)]
      · rw [if_neg h2, if_neg (by omega)]
  · rw [if_neg h]
    refine ⟨x.t, x.c, x.n, fun s hsN => ?_⟩
    rw [x.bk s hsN]
    by_cases h2 : s < (k + 4) / 7
    · rw [if_pos h2, if_pos (by omega)]
    · rw [if_neg h2, if_neg (by omega)]
structure SwV (n0 : Int) (N k : Nat) (M : Tbl) : Prop where
  t : M.t.now = n0
  n : M.n = N
  lv : ∀ s, s < N → s < (k + 4) / 7 → Lv (M.bk s) n0
theorem SwV.step {n0 : Int} {M : Tbl} {N k m : Nat} (x : SwV n0 N k M) (ts : TS m M) (n1 : 0 < N) : SwV n0 N (k + 1) (if k % 7 = 2 then M.sweep (k / 7 % N : Nat) else M) := by
  by_cases h : k % 7 = 2
  · rw [if_pos h]
    have hs0 : k / 7 % N < N := Nat.mod_lt _ n1
    have hs : k / 7 % N < M.n := by rw [x.n]; exact hs0
    obtain ⟨a1, a2, a3, a4, a5⟩ := Tbl.sweep_at hs
    refine ⟨a1.trans x.t, a4.trans x.n, fun s hsN hk => ?_⟩
    rw [a5, x.t]
    by_cases e : s = k / 7 % N
    · rw [if_pos e]; exact sweep_lv (ts.bk _ hs).bw.so n0
    · rw [if_neg e]
      refine x.lv s hsN ?_
      by_cases h2 : k / 7 < N
      · rw [Nat.mod_eq_of_lt h2] at e; omega
      · omega
  · rw [if_neg h]
    exact ⟨x.t, x.n, fun s hsN hk => x.lv s hsN (by omega)⟩
theorem SwQ.pres {M0 M : Tbl} {N m : Nat} (x : SwQ M0 N (7 * N) M) (ts : TS m M0) (hn : M0.n = N) (u : ByteArray) {s : Nat} (hs : s < N) : presB (M.bk s) u M.t.now = presB (M0.bk s) u M0.t.now := by
  rw [x.bk s hs, if_pos (by omega), x.t]
  exact sweep_pres (ts.bk s (by omega)).bw.so u _
end Go.Den
namespace Go.Proofs.YtcnphhhcknhhaaaGreat
open Go Go.Den Go.MapKept
set_option linter.unusedSimpArgs false
set_option linter.unusedVariables false
set_option maxRecDepth 20000
theorem ev_ld {F : Heap} {v : Value} {l : List Evt} (x : Sl 8 EvR F v l) {i : Nat} (hi : i < l.length) {k : IntKind} : ∃ b p, iaV (some (none, 8)) v (.int k i) = some (.pointer (some ⟨b, p, none⟩)) ∧ ∀ h', Ext F h' → cels h' b p 8 = some (evC l[i]) := by
  obtain ⟨b, p, c, h1, h2, h3⟩ := x.at (k := k) (i := i) (by omega) (by omega)
  refine ⟨b, p, h1, fun h' e => ?_⟩
  have hc : c = evC l[i] := h3
  subst hc
  exact cels_ext e h2
deriving instance DecidableEq for Reply
structure RpX (h : Heap) (r : Reply) (vv ev : Value) : Prop where
  v : Sl 3 PresR h vv r.vals
  e : Sl 8 EvR h ev r.evs
theorem RpX.ext {h h' : Heap} {r : Reply} {vv ev : Value} (x : RpX h r vv ev) (e : Ext h h') : RpX h' r vv ev := ⟨x.v.ext (@PresR.ext) e, x.e.ext (@EvR.ext) e⟩
theorem RpX.no (h : Heap) {r : Reply} (h1 : r.vals = []) (h2 : r.evs = []) : RpX h r (.slice none 0 0) (.slice none 0 0) := ⟨.inl ⟨h1, _, _, rfl⟩, .inl ⟨h2, _, _, rfl⟩⟩
end Go.Proofs.YtcnphhhcknhhaaaGreat
namespace Go.Proofs.YtcnphhhcknhhaaaGreat
open Go Go.Den Go.MapKept
set_option linter.unusedSimpArgs false
set_option linter.unusedVariables false
set_option maxRecDepth 20000
theorem g4 : Gd [4] := ⟨3, [], rfl⟩
def U5 (t : Tag) : Prop := UW t ∨ pre [4] t
theorem U5.nil : ¬ U5 [] := by rintro (h | h); exact UW.nil h; simp [pre] at h
/-- The program's table, and the document's, beside each other. -/
def Two (hp mp m N : Nat) (c : Cfg) (W : Wd) (M : Tbl) (T : Tags) (h : Heap) : Prop := RW T h hp m N c W M T h ∧ MdR T h [4] mp M
theorem Two.ext {hp mp m N : Nat} {c : Cfg} {W : Wd} {M : Tbl} {T : Tags} {h h' : Heap} (x : Two hp mp m N c W M T h) (e : Ext h h') : Two hp mp m N c W M T h' :=
  have o := Only.of_ext (U := non) x.1.o.wf e
  ⟨x.1.base o (fun _ _ h => h) (not_non _), x.2.kp o.k (Off.non _) (not_non _)⟩
end Go.Proofs.YtcnphhhcknhhaaaGreat
namespace Go.Proofs.YtcnphhhcknhhaaaGreat
open Go Go.Den Go.MapKept
set_option linter.unusedSimpArgs false
set_option linter.unusedVariables false
set_option maxRecDepth 20000
theorem u32_id {a : Int} (h0 : 0 ≤ a) (h1 : a < 4294967296) : IntKind.u32.wrap a = a := by
  unfold IntKind.wrap
  simp -implicitDefEqProofs [IntKind.bits, IntKind.signed]
  omega
theorem pow8 {w : Nat} (hw : w < 8) : (2 : Int) ^ w ≤ 128 ∧ 0 < (2 : Int) ^ w := by
  have : w = 0 ∨ w = 1 ∨ w = 2 ∨ w = 3 ∨ w = 4 ∨ w = 5 ∨ w = 6 ∨ w = 7 := by omega
  rcases this with rfl | rfl | rfl | rfl | rfl | rfl | rfl | rfl <;> decide
theorem b_shl {w : Nat} (hw : w < 8) : binV .shl 2 true (.int .u32 1) (.int .i64 w) = some (.int .u32 (2 ^ w)) := by
  have h := pow8 hw
  have h0 : ¬ (w : Int) < 0 := by omega
  have hm : min w 32 = w := by omega
  simp -implicitDefEqProofs only [binV, intV, if_neg h0, Int.toNat_natCast, IntKind.bits, hm, Int.one_mul]
  rw [u32_id (by omega) (by omega)]
theorem b_or {m : Int} {w : Nat} (hw : w < 8) : binV .or 2 false (.int .u32 m) (.int .u32 (2 ^ w)) = some (.int .u32 (mor m w)) := by
  have := mor_rng m w
  simp -implicitDefEqProofs only [binV, intV, if_true, bitV, IntKind.bits]
  show some (Value.int .u32 (IntKind.u32.wrap ((BitVec.ofInt 32 m ||| BitVec.ofInt 32 (2 ^ w)).toNat : Int))) = _
  have e : ((BitVec.ofInt 32 m ||| BitVec.ofInt 32 (2 ^ w)).toNat : Int) = mor m w := by simp [mor]
  rw [e, u32_id this.1 this.2]
theorem b_clr {m : Int} {w : Nat} (hw : w < 8) : binV .andNot 2 false (.int .u32 m) (.int .u32 (2 ^ w)) = some (.int .u32 (mclr m w)) := by
  have := mclr_rng m w
  simp -implicitDefEqProofs only [binV, intV, if_true, bitV, IntKind.bits]
  show some (Value.int .u32 (IntKind.u32.wrap ((BitVec.ofInt 32 m &&& ~~~BitVec.ofInt 32 (2 ^ w)).toNat : Int))) = _
  have e : ((BitVec.ofInt 32 m &&& ~~~BitVec.ofInt 32 (2 ^ w)).toNat : Int) = mclr m w := by simp [mclr]
  rw [e, u32_id this.1 this.2]
/-- The watches are written. -/
theorem FeedX.stw {T : Tags} {h : Heap} {g : Tag} {p : Nat} {f : Feed} {kw vw k v : Value} {q : Nat → Nat} (x : FeedX T h g p f kw vw q) (w : Wf T h) (gg : Gd g) {ws : List (ByteArray × Int)} (y : WsR (fz T h) k v ws) {c : Array Value} (hc : c = (feedC k v fun j => ptr (q j)).toArray) :
    Only (fun t => t = g ++ [0]) T h T (upd h p (.cells c ty_feed_Feed (0, 0))) ∧ FeedX T (upd h p (.cells c ty_feed_Feed (0, 0))) g p { f with ws := ws } k v q := by
  have o : Only (fun t => t = g ++ [0]) T h T (upd h p (.cells c ty_feed_Feed (0, 0))) := Only.upd w x.hp x.tp
  have e := o.ext (by simp)
  exact ⟨o, by rw [upd_same', hc], x.tp, y.1.ext (@StrR.ext) e, y.2.1.ext (@MaskR.ext) e, fun j hj => (x.xq j hj).kp o.k (off_eq (by simp)), y.2.2.1, y.2.2.2⟩
theorem fwatch_ok (who : Int) (u : ByteArray) (hu : u.size ≤ maxLen) {T : Tags} {h : Heap} {g : Tag} {p : Nat} {f : Feed} (w : Wf T h) (gg : Gd g) (x : FeedR T h g p f) (fg : FdG f) (hl : f.ws.length < 999999) {K : Value → Heap → Prop}
    (hk : ∀ T' h', Only (pre g) T h T' h' → FeedR T' h' g p (f.watch who u) → K (.tuple #[]) h') : callM P fn_feed_Feed_Watch #[ptr p, .int .i64 who, .string u] h K := by
  apply e_feed_Feed_Watch
  unfold d_feed_Feed_Watch
  refine client_ok who ?_
  unfold d_feed_Feed_Watch_1
  cases hc : clientB who with
  | false =>
    simp -implicitDefEqProofs
    have e : f.watch who u = f := by simp [Feed.watch, hc]
    rw [e] at hk
    exact hk T h (Only.refl w) x
  | true =>
  have e : f.watch who u = { f with ws := putB f.ws u (mor (valL 0 f.ws u) who) } := by simp [Feed.watch, hc]
  rw [e] at hk
  obtain ⟨n, rfl⟩ : ∃ n : Nat, who = n := ⟨who.toNat, by simp [clientB] at hc; omega⟩
  have hn : n < 8 := by simp [clientB] at hc; omega
  simp -implicitDefEqProofs
  unfold d_feed_Feed_Watch_2
  obtain ⟨kw, vw, q, x⟩ : ∃ kw vw q, FeedX T h g p f kw vw q := by
    obtain ⟨kw, vw, q, a1, a2, a3, a4, a5, a6, a7⟩ := x
    exact ⟨kw, vw, q, a1, a2, a3, a4, a5, a6, a7⟩
  have cp := x.hp
  have hws : WsR (fz T h) kw vw f.ws := ⟨x.x1, x.x2, x.s1, x.s2⟩
  have ldw : ∀ h', h' p = some (.cells (feedC kw vw fun j => ptr (q j)).toArray ty_feed_Feed (0, 0)) → ldV (some (some 2)) (.pointer (some ⟨p, 0, none⟩)) h' = some (.agg #[kw, vw]) := fun h' c => by simp [ld_at c, feedC, feedG, List.range_succ]
  simp -implicitDefEqProofs [ldw _ cp]
  refine mget_ok f.ws fg.so u (fz_ext T h) hws (by omega) fun h1 e1 => ?_
  have o1 : Only non T h T h1 := Only.of_ext w e1
  have x1 := x.kp o1.k (Off.non _) (not_non _)
  unfold d_feed_Feed_Watch_3
  simp -implicitDefEqProofs [ldw _ x1.hp, b_shl hn, b_or hn]
  refine mwith_ok f.ws fg.so u hu _ o1.wf ⟨x1.x1, x1.x2, x1.s1, x1.s2⟩ (by omega) fun h2 k v e2 y2 => ?_
  have o2 : Only non T h1 T h2 := Only.of_ext o1.wf e2
  have x2 := x1.kp o2.k (Off.non _) (not_non _)
  have cp2 := x2.hp
  have p1 := y2.1.one
  have p2 := y2.2.1.one
  obtain ⟨o3, x3⟩ := x2.stw o2.wf gg y2 (c := (feedC k v fun j => ptr (q j)).toArray) rfl
  simp -implicitDefEqProofs only [feedC, feedG, List.range_succ] at cp2 o3 x3
  simp at cp2 o3 x3
  simp -implicitDefEqProofs [ld_at cp2, cel_of cp2, stm_at cp2, stm_upd, ld_same, cel_same, over, p1.1, p1.2, p2.1, p2.2]
  exact hk T _ (((o1.trans o2).mono fun _ => non_up _).up o3 fun t => eq_pre) x3.r
theorem funwatch_ok (who : Int) (u : ByteArray) (hu : u.size ≤ maxLen) {T : Tags} {h : Heap} {g : Tag} {p : Nat} {f : Feed} (w : Wf T h) (gg : Gd g) (x : FeedR T h g p f) (fg : FdG f) (hl : f.ws.length < 999999) {K : Value → Heap → Prop}
    (hk : ∀ T' h', Only (pre g) T h T' h' → FeedR T' h' g p (f.unwatch who u) → K (.tuple #[]) h') : callM P fn_feed_Feed_Unwatch #[ptr p, .int .i64 who, .string u] h K := by
  apply e_feed_Feed_Unwatch
  unfold d_feed_Feed_Unwatch
  obtain ⟨kw, vw, q, x⟩ : ∃ kw vw q, FeedX T h g p f kw vw q := by
    obtain ⟨kw, vw, q, a1, a2, a3, a4, a5, a6, a7⟩ := x
    exact ⟨kw, vw, q, a1, a2, a3, a4, a5, a6, a7⟩
  have cp := x.hp
  have hws : WsR (fz T h) kw vw f.ws := ⟨x.x1, x.x2, x.s1, x.s2⟩
  have ldw : ∀ h', h' p = some (.cells (feedC kw vw fun j => ptr (q j)).toArray ty_feed_Feed (0, 0)) → ldV (some (some 2)) (.pointer (some ⟨p, 0, none⟩)) h' = some (.agg #[kw, vw]) := fun h' c => by simp [ld_at c, feedC, feedG, List.range_succ]
  simp -implicitDefEqProofs [ldw _ cp]
  refine mget_ok f.ws fg.so u (fz_ext T h) hws (by omega) fun h1 e1 => ?_
  have o1 : Only non T h T h1 := Only.of_ext w e1
  have x1 := x.kp o1.k (Off.non _) (not_non _)
  have p1' : Only (pre g) T h T h1 := o1.mono fun _ => non_up _
  unfold d_feed_Feed_Unwatch_1
  simp -implicitDefEqProofs
  refine client_ok who ?_
  unfold d_feed_Feed_Unwatch_2
  cases hc : clientB who with
  | false =>
    have e : f.unwatch who u = f := by simp [Feed.unwatch, hc]
    rw [e] at hk
    simp -implicitDefEqProofs
    exact hk T h1 p1' x1.r
  | true =>
  obtain ⟨n, rfl⟩ : ∃ n : Nat, who = n := ⟨who.toNat, by simp [clientB] at hc; omega⟩
  have hn : n < 8 := by simp [clientB] at hc; omega
  by_cases hm : valL 0 f.ws u = 0
  · have e : f.unwatch n u = f := by simp [Feed.unwatch, hm]
    rw [e] at hk
    simp -implicitDefEqProofs [hm]
    exact hk T h1 p1' x1.r
  simp -implicitDefEqProofs [hm]
  unfold d_feed_Feed_Unwatch_3
  simp -implicitDefEqProofs [b_shl hn, b_clr hn]
  by_cases hz : mclr (valL 0 f.ws u) n = 0
  · have e : f.unwatch n u = { f with ws := delB f.ws u } := by simp [Feed.unwatch, hc, hm, hz]
    rw [e] at hk
    simp -implicitDefEqProofs [hz]
    unfold d_feed_Feed_Unwatch_4
    simp -implicitDefEqProofs [ldw _ x1.hp]
    refine mwithout_ok f.ws fg.so u o1.wf ⟨x1.x1, x1.x2, x1.s1, x1.s2⟩ (by omega) fun h2 k v e2 y2 => ?_
    have o2 : Only non T h1 T h2 := Only.of_ext o1.wf e2
    have x2 := x1.kp o2.k (Off.non _) (not_non _)
    have cp2 := x2.hp
    have p1 := y2.1.one
    have p2 := y2.2.1.one
    obtain ⟨o3, x3⟩ := x2.stw o2.wf gg y2 (c := (feedC k v fun j => ptr (q j)).toArray) rfl
    simp -implicitDefEqProofs only [feedC, feedG, List.range_succ] at cp2 o3 x3
    simp at cp2 o3 x3
    simp -implicitDefEqProofs [ld_at cp2, cel_of cp2, stm_at cp2, stm_upd, ld_same, cel_same, over, p1.1, p1.2, p2.1, p2.2]
    exact hk T _ (((o1.trans o2).mono fun _ => non_up _).up o3 fun t => eq_pre) x3.r
  · have e : f.unwatch n u = { f with ws := putB f.ws u (mclr (valL 0 f.ws u) n) } := by simp [Feed.unwatch, hc, hm, hz]
    rw [e] at hk
    simp -implicitDefEqProofs [hz]
    unfold d_feed_Feed_Unwatch_5
    simp -implicitDefEqProofs [ldw _ x1.hp]
    refine mwith_ok f.ws fg.so u hu _ o1.wf ⟨x1.x1, x1.x2, x1.s1, x1.s2⟩ (by omega) fun h2 k v e2 y2 => ?_
    have o2 : Only non T h1 T h2 := Only.of_ext o1.wf e2
    have x2 := x1.kp o2.k (Off.non _) (not_non _)
    have cp2 := x2.hp
    have p1 := y2.1.one
    have p2 := y2.2.1.one
    obtain ⟨o3, x3⟩ := x2.stw o2.wf gg y2 (c := (feedC k v fun j => ptr (q j)).toArray) rfl
    simp -implicitDefEqProofs only [feedC, feedG, List.range_succ] at cp2 o3 x3
    simp at cp2 o3 x3
    simp -implicitDefEqProofs [ld_at cp2, cel_of cp2, stm_at cp2, stm_upd, ld_same, cel_same, over, p1.1, p1.2, p2.1, p2.2]
    exact hk T _ (((o1.trans o2).mono fun _ => non_up _).up o3 fun t => eq_pre) x3.r
theorem hwatch_ok (who : Int) {s : Nat} (u : ByteArray) (hu : u.size ≤ maxLen) (on : Bool) {T : Tags} {h : Heap} {g : Tag} {p m : Nat} {H : Hall} (w : Wf T h) (gg : Gd g) (x : HallR T h g p H) (hs : s < H.n) (hh : HS m H) (hm : m < 100000) {K : Value → Heap → Prop}
    (hk : ∀ T' h', Only (pre g) T h T' h' → HallR T' h' g p (H.watch who s u on) → K (.tuple #[]) h') : callM P fn_hall_Hall_Watch #[ptr p, .int .i64 who, .int .i64 s, .string u, .bool on] h K := by
  apply e_hall_Hall_Watch
  unfold d_hall_Hall_Watch
  obtain ⟨sv, av, Y, x⟩ := x
  refine hwr_ok who w gg x hs hh.n8.2 (by have := hh.ac; omega) fun T2 h2 av2 b o2 x2 rb => ?_
  obtain ⟨b', ob, rb', hb1, tb, ia, l1, l2, l3, l4, l5, l6⟩ := x2.lds (s := s) (k := .i64) hs
  have hbb : b' = b := by rw [rb] at rb'; cases rb'; rfl
  subst hbb
  have hf := (x2.sr s hs).2.2
  have fd := (hh.st s hs).fd
  have fg := fd.g hm
  have hl : ((H.wr who s).ss s).feed.ws.length < 999999 := by have := fd.len; show (H.ss s).feed.ws.length < _; omega
  have oh : Only (pre g) T h T2 h2 := o2.mono fun _ => U02.pre
  unfold d_hall_Hall_Watch_1
  simp -implicitDefEqProofs [l5]
  cases on with
  | true =>
    simp -implicitDefEqProofs
    refine fwatch_ok who u hu o2.wf (gg.app [3, s]) hf fg hl fun T4 h4 o4 r4 => ?_
    exact hk T4 h4 (oh.up o4 fun t => pre_trans) ⟨sv, av2, _, x2.fed hs o4 gg r4⟩
  | false =>
    simp -implicitDefEqProofs
    refine funwatch_ok who u hu o2.wf (gg.app [3, s]) hf fg hl fun T4 h4 o4 r4 => ?_
    exact hk T4 h4 (oh.up o4 fun t => pre_trans) ⟨sv, av2, _, x2.fed hs o4 gg r4⟩
end Go.Proofs.YtcnphhhcknhhaaaGreat
namespace Go.Proofs.YtcnphhhcknhhaaaGreat
open Go Go.Den Go.MapKept
set_option linter.unusedSimpArgs false
set_option linter.unusedVariables false
set_option maxRecDepth 20000
def evX (l : List Evt) : List (Array Value) := l.map fun e => #[.agg (evC e).toArray]
theorem zcEv : zc P ty_api_Event = some #[.string ⟨#[]⟩, .int .i64 0, .int .i64 0, .int .i64 0, .int .i64 0, .int .i64 0, .int .i64 0, .int .u64 0] := by kernel_rfl
theorem rall_it (r : Ring) {hA : Heap} {b p : Nat} {lv : Value} (cb : hA b = some (.cells #[ptr p] ty_Ptr_ring_Ring_doorman_api_Event (0, 0))) (cp : hA p = some (.cells (ringC r lv).toArray ty_ring_Ring_doorman_api_Event (0, 0))) (x : Sl 8 EvR hA lv r.l) (hl : r.l.length < 1000000) :
    It P fn_ring_Ring_api_Event_All_c1 #[ptr b] (evX r.l) hA := by
  intro yv I S h K hx hs h0 hround hK1 hK2
  apply e_ring_Ring_api_Event_All_c1
  unfold d_ring_Ring_api_Event_All_c1
  have cb0 := hx _ _ h0 _ _ cb
  have cp0 := hx _ _ h0 _ _ cp
  simp -implicitDefEqProofs only [ringC] at cp0
  have hlen := x.len
  simp -implicitDefEqProofs [ld_at cb0, cel_of cb0, stm_at cb0, ld_at cp0, cel_of cp0, stm_at cp0, stm_upd, ld_same, cel_same, over, hlen]
  refine loop_on [0, 8, 9] (fun s h' => ∃ k : Nat, k ≤ r.l.length ∧ s 10 = .int .i64 k ∧ I k h') (fun s _ => (r.l.length - num (s 10)).toNat) ⟨0, by omega, rfl, h0⟩ ?_
  rintro s h1 hf ⟨k, hk, s10, hI⟩
  have s0 : s 0 = yv := by simpa using hf 0 (by simp)
  have s8 : s 8 = lv := by simpa using hf 8 (by simp)
  have s9 : s 9 = .int .i64 r.l.length := by simpa using hf 9 (by simp)
  unfold d_ring_Ring_api_Event_All_c1_1
  simp -implicitDefEqProofs only [s9, s10, bin_lss, ov_s, cd_b]
  refine ⟨fun hc => ?_, fun hc => ?_⟩
  rotate_left
  · have : k = r.l.length := by have : ¬ ((k : Int) < r.l.length) := by simpa using hc
                                omega
    subst this
    simp -implicitDefEqProofs
    exact hK1 _ _ (by simpa [evX] using hI)
  have hlt : k < r.l.length := by have : ((k : Int) < r.l.length) := by simpa using hc
                                  omega
  have hw : IntKind.i64.wrap ((k : Int) + 1) = k + 1 := wrap64_id (by omega) (by omega)
  have eA := hx _ _ hI
  obtain ⟨eb, eo, i1, i2⟩ := ev_ld x (k := .i64) hlt
  unfold d_ring_Ring_api_Event_All_c1_2
  simp -implicitDefEqProofs only [s8, s10, i1, ov_s, ldV_n (i2 _ eA), zcEv]
  refine nw_st rfl (by simp [evC, presC]) (by simp [evC, presC]) fun vb h3 n3 e3 c3 => ?_
  have c3 : h3 vb = some (.cells (evC r.l[k]).toArray ty_api_Event (0, 0)) := by simpa using c3
  have hld : ldV (some (some 8)) (ptr vb) h3 = some (.agg (evC r.l[k]).toArray) := by simp [ld_at c3, evC, presC]
  simp -implicitDefEqProofs only [hld, ov_s, s0]
  have hj : k < (evX r.l).length := by simpa [evX] using hlt
  have hr := hround k hj h3
  have hx' : (evX r.l)[k] = #[.agg (evC r.l[k]).toArray] := by simp [evX]
  rw [hx'] at hr
  refine hr _ (hs _ _ _ hI e3) (fun h4 hI4 => ?_) (fun h4 hS => ?_)
  · unfold d_ring_Ring_api_Event_All_c1_3 d_ring_Ring_api_Event_All_c1_4
    simp -implicitDefEqProofs [s10, hw, s0, s8, s9]
    exact ⟨⟨k + 1, by omega, by simp, hI4⟩, by omega⟩
  · unfold d_ring_Ring_api_Event_All_c1_3
    simp -implicitDefEqProofs
    exact hK2 _ _ hS
def DrJ (hB : Heap) (v1 : Nat) (l : List Evt) (q b' i : Nat) (h' : Heap) : Prop :=
  ∃ ov, h' v1 = some (.cells #[ov] ty_Sl_api_Event (0, 0)) ∧ Row 8 ty_api_Event h' ov i ((l.take i).flatMap evC) ∧ Ext (wo hB [v1]) h' ∧ ∀ r, rowOf ov = some r → r ≠ v1 ∧ r ≠ q ∧ r ≠ b' ∧ hB r = none
def DrC (hB : Heap) (v1 : Nat) (l : List Evt) (q b' i : Nat) (s2 : Env) (h' : Heap) : Prop := DrJ hB v1 l q b' i h' ∧ s2 4 = ptr v1 ∧ ∃ (hi : i < l.length) (xb : Nat), s2 5 = ptr xb ∧ xb ≠ q ∧ xb ≠ v1 ∧ h' xb = some (.cells (evC l[i]).toArray ty_api_Event (0, 0))
theorem DrJ.keep {hB : Heap} {v1 : Nat} {l : List Evt} {q b' i : Nat} {h' h'' : Heap} (J : DrJ hB v1 l q b' i h') (hl' : hB q = none) (h3 : hB v1 ≠ none) (k : Keep (some q) h' h'') : DrJ hB v1 l q b' i h'' := by
  obtain ⟨ov, c, r, e, n⟩ := J
  refine ⟨ov, k _ _ c (fun hh => by cases hh; exact h3 hl'), r.of_at fun g hg => ?_, wo_keep e hl' k, n⟩
  obtain ⟨o, ho⟩ := r.lt g hg
  rw [ho]; exact k _ _ ho (fun hh => (n g hg).2.1 (by cases hh; rfl))
theorem zcSlEv : zc P ty_Sl_api_Event = some #[.slice none 0 0] := by kernel_rfl
set_option maxHeartbeats 2000000 in
theorem rdrain_ok {T : Tags} {h : Heap} {g : Tag} {p : Nat} {r : Ring} (w : Wf T h) (gg : Gd g) (x : RingR T h g p r) (hl : r.l.length < 1000000) {K : Value → Heap → Prop}
    (hk : ∀ T' h' v, Only (pre g) T h T' h' → RingR T' h' g p ⟨r.room, [], false⟩ → Sl 8 EvR (fz T' h') v r.l → K (.tuple #[v, .bool r.lost]) h') : callM P fn_ring_Ring_api_Event_Drain #[ptr p] h K := by
  apply e_ring_Ring_api_Event_Drain
  unfold d_ring_Ring_api_Event_Drain
  rw [zcSlEv]
  refine nw_intro fun v1 h1 n1 e1 c1 => ?_
  obtain ⟨lv, cp, tp, rl⟩ := x
  have cp1 := e1 _ _ cp
  have xs : Sl 8 EvR h lv r.l := Row.slE (enc := evC) (R := EvR) (fun e => by simp [evC, presC]) (fun _ => rfl) rl.1
  have n1p : p ≠ v1 := fun hh => by subst hh; rw [cp] at n1; cases n1
  rw [seqM_eq]
  unfold d_ring_Ring_api_Event_Drain_1
  apply e_ring_Ring_api_Event_All
  unfold d_ring_Ring_api_Event_All
  simp -implicitDefEqProofs only [nwM_s, Value.cells]
  intro bA nA
  have eA : Ext h1 (upd h1 bA _) := Ext.upd nA (.cells #[ptr p] ty_Ptr_ring_Ring_doorman_api_Event (0, 0))
  have cA := upd_same' h1 bA (.cells #[ptr p] ty_Ptr_ring_Ring_doorman_api_Event (0, 0))
  generalize upd h1 bA _ = hB at *
  have nA1 : v1 ≠ bA := ne_fresh c1 nA
  have c1 := eA _ _ c1
  have cp2 := eA _ _ cp1
  have e0B := e1.trans eA
  have h1B : hB v1 ≠ none := by rw [c1]; simp
  have F1 : Ext h (wo hB [v1]) := wo_ext e0B (by simpa using n1)
  have hlx : (evX r.l).length = r.l.length := by simp [evX]
  simp -implicitDefEqProofs only [ov_s]
  unfold d_ring_Ring_api_Event_Drain_2
  refine rf_go good mixed rfl (by kernel_rfl) (rall_it r (hA := wo hB [v1]) (b := bA) (p := p) (lv := lv) (by rw [wo_out (by simpa using Ne.symm nA1)]; exact cA) (by rw [wo_out (by simpa using n1p)]; exact cp2) (xs.ext (@EvR.ext) F1) hl)
    (fun q b' i h' => DrJ hB v1 r.l q b' i h') (fun _ _ _ _ => False) (fun q b' i s2 h' => DrC hB v1 r.l q b' i s2 h') ?_ ?_ ?_ (fun _ _ _ _ _ _ _ h _ => h) ?_ ?_ ?_ ?_ ?_ (fun _ _ _ _ _ _ _ h => h.elim) (fun _ _ _ _ _ _ _ _ h => h.elim)
  · intro q b' hq hb'
    exact ⟨_, c1, by simpa using (Rf.nil (sz := 8) (e := ty_api_Event) (Ext.refl hB)).row, fun k o hk => (wo_get hk).2, fun k hk => by simp [rowOf] at hk⟩
  · intro q b' i h' J; obtain ⟨ov, _, _, e, _⟩ := J; exact e
  · intro q b' hq hb' i h' h'' J k
    exact J.keep hq h1B k
  · rintro q b' i s2 ha hb hq hb' ⟨J, s4, hi, xb, s5, nx, nx1, cx⟩ k
    exact ⟨J.keep hq h1B k, s4, hi, xb, s5, nx, nx1, k _ _ cx (fun hh => nx (by cases hh; rfl))⟩
  · intro i hi; simp [evX]
  · rintro i hi q b' h2 hq hb' ⟨ol, hol⟩ ⟨ob, hob⟩ J
    rw [ea_ring_Ring_api_Event_Drain_0]
    unfold da_ring_Ring_api_Event_Drain_0
    rw [zcEv]
    have hib : i < r.l.length := by omega
    have hxi : (evX r.l)[i] = #[.agg (evC r.l[i]).toArray] := by simp [evX]
    rw [hxi]
    simp -implicitDefEqProofs
    refine nw_st rfl (by simp [evC, presC]) (by simp [evC, presC]) fun xb h4 n4 e4 c4 => ?_
    have nx : xb ≠ q := fun hh => by subst hh; rw [hol] at n4; cases n4
    obtain ⟨ov, cv, rr, e, nr⟩ := J
    refine ⟨⟨⟨ov, e4 _ _ cv, rr.ext e4, e.trans e4, nr⟩, by simp, hib, xb, by simp, nx, fun hh => (by subst hh; rw [cv] at n4; cases n4), by simpa using c4⟩, by rw [hol, e4 _ _ hol], by rw [hob, e4 _ _ hob]⟩
  · rintro i hi q b' s2 h3 hq hb' ⟨ol, hol⟩ ⟨ob, hob⟩ ⟨⟨ov, cv, rr, e, nr⟩, s4, hib, xb, s5, nx, nx1, cx⟩
    rw [eb_ring_Ring_api_Event_Drain_0]
    unfold db_ring_Ring_api_Event_Drain_0
    have hld : ldV (some (some 8)) (ptr xb) h3 = some (.agg (evC r.l[i]).toArray) := by simp [ld_at cx, evC, presC]
    simp -implicitDefEqProofs [s4, s5, ld_at cv, cel_of cv, stm_at cv, stm_upd, ld_same, cel_same, over, hld]
    refine app_one (x := .agg (evC r.l[i]).toArray) bsEv unSlEv apEv (by omega) (by simp [evC, presC]) (by simp [evC, presC]) rr (by unfold maxLen; omega) (by omega) (by omega) fun a ov' h4 r4 k4 ha => ?_
    have hl3 : q ≠ v1 := fun hh => by subst hh; rw [hq] at c1; cases c1
    have hb3 : b' ≠ v1 := fun hh => by subst hh; rw [hb'] at c1; cases c1
    have cv4 : h4 v1 = some (.cells #[ov] ty_Sl_api_Event (0, 0)) := k4 _ _ cv (fun hh => (nr v1 hh.symm).1 rfl)
    have hol4 : h4 q = some ol := k4 _ _ hol (fun hh => (nr q hh.symm).2.1 rfl)
    have hob4 : h4 b' = some ob := k4 _ _ hob (fun hh => (nr b' hh.symm).2.2.1 rfl)
    have nr' : ∀ k, rowOf ov' = some k → k ≠ v1 ∧ k ≠ q ∧ k ≠ b' ∧ hB k = none := fun k hk => by
      rcases ha with ha | ⟨j, ha, hj⟩
      · exact nr k (by rw [← ha]; exact hk)
      · rw [ha] at hk; cases hk
        refine ⟨fun hh => ?_, fun hh => ?_, fun hh => ?_, ?_⟩
        · subst hh; rw [cv] at hj; cases hj
        · subst hh; rw [hol] at hj; cases hj
        · subst hh; rw [hob] at hj; cases hj
        · by_cases hg3 : k = v1
          · subst hg3; rw [cv] at hj; cases hj
          · cases hh : hB k with
            | none => rfl
            | some o =>
              have := e k o (by rw [wo_out (by simpa using hg3)]; exact hh)
              rw [this] at hj; cases hj
    have okv : ov'.cells = #[ov'] := r4.one.2
    simp -implicitDefEqProofs [ld_at cv4, cel_of cv4, stm_at cv4, stm_upd, ld_same, cel_same, over, okv, r4.one.1]
    refine ⟨by rw [upd_ne hl3, hol4, hol], by rw [upd_ne hb3, hob4, hob], ov', upd_same' _ _ _, ?_, wo_upd ?_ (by simp), nr'⟩
    · have : r.l.take (i + 1) = r.l.take i ++ [r.l[i]] := by rw [List.take_succ_eq_append_getElem hib]
      rw [this, List.flatMap_append]
      exact (by simpa using r4 : Row 8 ty_api_Event h4 ov' (i + 1) _).of_at fun k hk => upd_ne (nr' k hk).1
    · intro k o hk
      have hkB := wo_get hk
      have := e k o hk
      exact k4 k o this fun hh => by rw [(nr k hh.symm).2.2.2] at hkB; cases hkB.2
  · intro q b' h' hq hne hb' hd J
    rw [hlx] at J
    obtain ⟨ov, cv, rr, e, nr⟩ := J
    rw [List.take_of_length_le (Nat.le_refl _)] at rr
    have cp3 := e _ _ (show wo hB [v1] p = _ by rw [wo_out (by simpa using n1p)]; exact cp2)
    have nb1 : v1 ≠ b' := fun hh => by subst hh; rw [hb'] at c1; cases c1
    have nbp : p ≠ b' := fun hh => by subst hh; rw [hb'] at cp2; cases cp2
    simp -implicitDefEqProofs only [ringC] at cp3
    simp -implicitDefEqProofs only [blkM_n, thenM_n]
    unfold d_ring_Ring_api_Event_Drain_3
    simp -implicitDefEqProofs [ld_at cp3, cel_of cp3, stm_at cp3, ld_at cv, cel_of cv, stm_at cv, stm_skip n1p, stm_skip (Ne.symm n1p), ld_skip n1p, ld_skip (Ne.symm n1p), cel_skip n1p, cel_skip (Ne.symm n1p), stm_upd, ld_same, cel_same, over, hd, ld_skip nb1, cel_skip nb1, upd_ne (Ne.symm nbp)]
    obtain ⟨X, hX⟩ : ∃ X, X = Obj.cells #[Value.int .i64 r.room, .slice none 0 0, .bool false] ty_ring_Ring_doorman_api_Event (0, 0) := ⟨_, rfl⟩
    rw [← hX]
    have ec : upd (upd h' p X) b' (.deferred none) = upd (upd h' b' (.deferred none)) p X := by
      funext k
      by_cases h1 : k = b'
      · subst h1; rw [upd_same', upd_ne (Ne.symm nbp), upd_same']
      · rw [upd_ne h1]
        by_cases h2 : k = p
        · subst h2; rw [upd_same', upd_same']
        · rw [upd_ne h2, upd_ne h2, upd_ne h1]
    rw [ec]
    have E1 : Ext h (upd h' b' (.deferred none)) := ext_upd (fresh_of e0B hb') (ext_wo e0B (by simpa using n1) e)
    have o1 : Only non T h T (upd h' b' (.deferred none)) := Only.of_ext w E1
    have o2 : Only (fun t => t = g ++ [0]) T (upd h' b' (.deferred none)) T (upd (upd h' b' (.deferred none)) p X) := Only.upd o1.wf (E1 _ _ cp) tp
    have nrh : ∀ k, rowOf ov = some k → h k = none := fun k hk => fresh_of e0B (nr k hk).2.2.2
    refine hk T _ ov ((o1.mono fun _ => non_up _).up o2 fun t => eq_pre) ⟨.slice none 0 0, by rw [upd_same', hX]; rfl, tp, Rw.nil _ _ _ _ _⟩ ?_
    have r2 : Row 8 ty_api_Event (upd (upd h' b' (.deferred none)) p X) ov r.l.length (r.l.flatMap evC) := rr.of_at fun j hj => by
      have hjp : j ≠ p := fun hh => by have := nrh j hj; rw [hh, cp] at this; cases this
      rw [upd_ne hjp, upd_ne (nr j hj).2.2.1]
    exact Row.slE (enc := evC) (R := EvR) (fun e => by simp [evC, presC]) (fun _ => rfl) (r2.fz w nrh)
end Go.Proofs.YtcnphhhcknhhaaaGreat
namespace Go.Proofs.YtcnphhhcknhhaaaGreat
open Go Go.Den Go.MapKept
set_option linter.unusedSimpArgs false
set_option linter.unusedVariables false
set_option maxRecDepth 20000
theorem fdrain_ok (who : Int) {T : Tags} {h : Heap} {g : Tag} {p : Nat} {f : Feed} (w : Wf T h) (gg : Gd g) (x : FeedR T h g p f) (hl : ∀ j, j < 8 → (f.qs j).l.length < 1000000) {K : Value → Heap → Prop}
    (hk : ∀ T' h' v, Only (pre g) T h T' h' → FeedR T' h' g p (f.drain who) → Sl 8 EvR (fz T' h') v (f.told who) → K (.tuple #[v, .bool (f.lost who)]) h') : callM P fn_feed_Feed_Drain #[ptr p, .int .i64 who] h K := by
  apply e_feed_Feed_Drain
  unfold d_feed_Feed_Drain
  refine client_ok who ?_
  unfold d_feed_Feed_Drain_1
  cases hc : clientB who with
  | false =>
    simp -implicitDefEqProofs
    have e1 : f.drain who = f := by simp [Feed.drain, hc]
    have e2 : f.told who = [] := by simp [Feed.told, hc]
    have e3 : f.lost who = false := by simp [Feed.lost, hc]
    rw [e1, e2, e3] at hk
    exact hk T h _ (Only.refl w) x (.inl ⟨rfl, _, _, rfl⟩)
  | true =>
  obtain ⟨n, rfl⟩ : ∃ n : Nat, who = n := ⟨who.toNat, by simp [clientB] at hc; omega⟩
  have hn : n < 8 := by simp [clientB] at hc; omega
  have e1 : f.drain n = { f with qs := qset f.qs n ⟨(f.qs n).room, [], false⟩ } := by simp [Feed.drain, hc]
  have e2 : f.told n = (f.qs n).l := by simp [Feed.told, hc]
  have e3 : f.lost n = (f.qs n).lost := by simp [Feed.lost, hc]
  rw [e1, e2, e3] at hk
  obtain ⟨kw, vw, q, cp, tp, a3, a4, a5, a6, a7⟩ := x
  simp -implicitDefEqProofs
  unfold d_feed_Feed_Drain_2
  have hcel : cel h p (2 + n) = some (ptr (q n)) := by
    rw [cel_of cp]
    have : n = 0 ∨ n = 1 ∨ n = 2 ∨ n = 3 ∨ n = 4 ∨ n = 5 ∨ n = 6 ∨ n = 7 := by omega
    rcases this with rfl | rfl | rfl | rfl | rfl | rfl | rfl | rfl <;> simp [feedC, feedG, List.range_succ]
  simp -implicitDefEqProofs [ia_arr hn, hcel]
  refine rdrain_ok w (gg.app [1, n]) (a5 n hn) (hl n hn) fun T2 h2 v o2 r2 s2 => ?_
  simp -implicitDefEqProofs
  have b := o2.k.at cp tp (not_pre (by simp))
  have nn : ¬ pre (g ++ [1, n]) [] := (gg.app _).nil
  refine hk T2 h2 v (o2.mono fun t => pre_trans) ⟨kw, vw, q, b.1, b.2, a3.ext (@StrR.ext) (o2.ext nn), a4.ext (@MaskR.ext) (o2.ext nn), fun j hj => ?_, a6, a7⟩ s2
  show RingR T2 h2 _ _ (qset f.qs n _ j)
  by_cases hjn : j = n
  · subst hjn; simp [qset]; exact r2
  · simp -implicitDefEqProofs [qset, hjn]; exact (a5 j hj).kp o2.k (off_pre (by simp; omega) (by simp; omega))
theorem hdrain_ok (who : Int) {s : Nat} {T : Tags} {h : Heap} {g : Tag} {p m : Nat} {H : Hall} (w : Wf T h) (gg : Gd g) (x : HallR T h g p H) (hs : s < H.n) (hh : HS m H) (hm : m < 100000) (hl : ∀ j, j < 8 → ((H.ss s).feed.qs j).l.length < 1000000) {K : Value → Heap → Prop}
    (hk : ∀ T' h' v, Only (pre g) T h T' h' → HallR T' h' g p (H.drain who s) → Sl 8 EvR (fz T' h') v ((H.ss s).feed.told who) → K (.tuple #[v, .bool ((H.ss s).feed.lost who)]) h') : callM P fn_hall_Hall_Drain #[ptr p, .int .i64 who, .int .i64 s] h K := by
  apply e_hall_Hall_Drain
  unfold d_hall_Hall_Drain
  obtain ⟨sv, av, Y, x⟩ := x
  refine hwr_ok who w gg x hs hh.n8.2 (by have := hh.ac; omega) fun T2 h2 av2 b o2 x2 rb => ?_
  obtain ⟨b', ob, rb', hb1, tb, ia, l1, l2, l3, l4, l5, l6⟩ := x2.lds (s := s) (k := .i64) hs
  have hbb : b' = b := by rw [rb] at rb'; cases rb'; rfl
  subst hbb
  have hf := (x2.sr s hs).2.2
  have oh : Only (pre g) T h T2 h2 := o2.mono fun _ => U02.pre
  unfold d_hall_Hall_Drain_1
  simp -implicitDefEqProofs [l5]
  refine fdrain_ok who o2.wf (gg.app [3, s]) hf hl fun T4 h4 v o4 r4 s4 => ?_
  simp -implicitDefEqProofs
  exact hk T4 h4 v (oh.up o4 fun t => pre_trans) ⟨sv, av2, _, x2.fed hs o4 gg r4⟩ s4
end Go.Proofs.YtcnphhhcknhhaaaGreat
namespace Go.Den
open Go Go.MapKept
set_option linter.unusedVariables false
set_option linter.unusedSimpArgs false
structure MiR (h : Heap) (r : Nat) (m : Mine) : Prop where
  e : ∃ es ck, h r = some (.map es ck) ∧ Stamped es ck ∧ (∀ x ∈ es.toList, IsKey .string x.key ∧ x.val = .bool true) ∧ (es.toList.map (·.key)).Perm (m.map Value.string)
theorem MiR.of {h h' : Heap} {r : Nat} {m : Mine} (x : MiR h r m) (e : h' r = h r) : MiR h' r m := by
  obtain ⟨es, ck, h1, h2⟩ := x.e
  exact ⟨es, ck, e.trans h1, h2⟩
theorem MiR.ext {h h' : Heap} {r : Nat} {m : Mine} (x : MiR h r m) (e : Ext h h') : MiR h' r m := by
  obtain ⟨es, ck, h1, h2⟩ := x.e
  exact ⟨es, ck, e _ _ h1, h2⟩
def miF (m : Mine) : Value → Option Value := fun k => match k with
  | .string u => if mhas m u = true then some (.bool true) else none
  | _ => none
theorem MiR.map {h : Heap} {r : Nat} {m : Mine} (x : MiR h r m) : MapR .string h r (miF m) := by
  obtain ⟨es, ck, h1, h2, h3, h4⟩ := x.e
  refine ⟨es, ck, h1, h2, fun y hy => (h3 y hy).1, fun k v hk => ?_⟩
  cases k with
  | string u =>
    have hm : (u ∈ m) ↔ ∃ e ∈ es.toList, e.key = .string u := by
      have : (Value.string u ∈ es.toList.map (·.key)) ↔ (Value.string u ∈ m.map Value.string) := h4.mem_iff
      simp only [List.mem_map] at this
      constructor
      · intro hu; exact this.2 ⟨u, hu, rfl⟩
      · intro hu; obtain ⟨a, ha, hb⟩ := this.1 hu; cases hb; exact ha
    simp only [miF]
    by_cases hu : mhas m u = true
    · rw [if_pos hu]
      constructor
      · intro he; cases he
        obtain ⟨e, he1, he2⟩ := hm.1 (mhas_iff.1 hu)
        exact ⟨e, he1, he2, (h3 e he1).2⟩
      · rintro ⟨e, he1, he2, he3⟩
        rw [(h3 e he1).2] at he3; rw [he3]
    · rw [if_neg hu]
      constructor
      · intro he; cases he
      · rintro ⟨e, he1, he2, he3⟩; exact absurd (mhas_iff.2 (hm.2 ⟨e, he1, he2⟩)) hu
  | _ => simp [IsKey] at hk
theorem MiR.nodup {h : Heap} {r : Nat} {m : Mine} (x : MiR h r m) : m.Nodup := by
  obtain ⟨es, ck, h1, h2, h3, h4⟩ := x.e
  have := h4.nodup_iff.1 h2.2.2
  exact List.Pairwise.of_map (S := fun a b => a ≠ b) Value.string (fun a b hab he => hab (by rw [he])) this
theorem filter_ne_perm {m : Mine} {u : ByteArray} (nd : m.Nodup) (h : u ∈ m) : (u :: m.filter fun k => !decide (k = u)).Perm m := by
  induction m with
  | nil => simp at h
  | cons a m ih =>
    obtain ⟨n1, n2⟩ := List.nodup_cons.1 nd
    by_cases ha : a = u
    · subst ha
      have : (m.filter fun k => !decide (k = a)) = m := List.filter_eq_self.2 fun k hk => by
        have : k ≠ a := fun e => n1 (e ▸ hk)
        simp [this]
      simp [List.filter_cons, this]
    · have hm : u ∈ m := by simpa [Ne.symm ha] using h
      have e : (List.filter (fun k => !decide (k = u)) (a :: m)) = a :: m.filter fun k => !decide (k = u) := by simp [List.filter_cons, ha]
      rw [e]
      exact (List.Perm.swap a u _).trans ((ih n2 hm).cons a)
theorem miset_on {m : Mine} {u : ByteArray} (nd : m.Nodup) (h : u ∈ m) : (miset m u true).Perm m := by
  unfold miset
  simp only [if_true]
  exact List.perm_append_singleton u _ |>.trans (filter_ne_perm nd h)
theorem filter_ne_self {m : Mine} {u : ByteArray} (h : u ∉ m) : (m.filter fun k => !decide (k = u)) = m := List.filter_eq_self.2 fun k hk => by
  have : k ≠ u := fun e => h (e ▸ hk)
  simp [this]
theorem MiR.mem {es : Array MapEntry} {m : Mine} (h4 : (es.toList.map (·.key)).Perm (m.map Value.string)) (u : ByteArray) : u ∈ m ↔ ∃ e ∈ es.toList, e.key = .string u := by
  have : (Value.string u ∈ es.toList.map (·.key)) ↔ (Value.string u ∈ m.map Value.string) := h4.mem_iff
  simp only [List.mem_map] at this
  constructor
  · intro hu; exact this.2 ⟨u, hu, rfl⟩
  · intro hu; obtain ⟨a, ha, hb⟩ := this.1 hu; cases hb; exact ha
theorem mi_len {P : Program} {t ty kt et : TypeId} {r : Nat} {m : Mine} {h : Heap} {K : Value → Heap → Prop} (ht : P.underlying t = some (.map kt et)) (x : MiR h r m) (hK : K (.int .i64 m.length) h) :
    vvM P (Builtin.len_ #[t] ty #[.map (some r)]) h K := by
  intro w hw
  obtain ⟨es, ck, hb, h2, h3, h4⟩ := x.e
  rw [← hw] at hb
  have hb' : w.heap[r]? = some (.map es ck) := hb
  have hl : es.size = m.length := by have := h4.length_eq; simpa using this
  refine ⟨.int .i64 m.length, w, ?_, Okw.refl w, by rw [hw]; exact hK⟩
  simp [Builtin.len_, run_underlying ht, Go.MapKept.run_getObj_map hb', Result.andThen, goInt, hl]
theorem mi_set {P : Program} {t : TypeId} {kt : TypeId} {z : Value} {r : Nat} {m : Mine} {u : ByteArray} {h : Heap} {K : Heap → Prop}
    (hc : mpC P t = some (kt, .string, z)) (x : MiR h r m) (hK : ∀ h', (∀ b, b ≠ r → h' b = h b) → MiR h' r (miset m u true) → K h') : uM P (Instr.mapUpdate t (.map (some r)) (.string u) (.bool true)) h K := by
  intro w hw
  have nd := x.nodup
  obtain ⟨et, i, hu, hd, hi, hz⟩ := mpC_spec hc
  obtain ⟨es, ck, hb, hs, hks, hp⟩ := x.e
  rw [← hw] at hb
  have hb' : w.heap[r]? = some (.map es ck) := hb
  have hk : IsKey .string (.string u) := trivial
  have hks' : ∀ x ∈ es.toList, IsKey .string x.key := fun x hx => (hks x hx).1
  rcases findNow_spec hk es.toList 0 hks' with ⟨h1, h2⟩ | ⟨j, e, h1, h2, h3⟩
  · have hn : u ∉ m := fun hu => by obtain ⟨e, he1, he2⟩ := (MiR.mem hp u).1 hu; exact h2 e he1 he2
    refine ⟨{ w with heap := w.heap.setIfInBounds r (.map (es.push { key := .string u, val := .bool true, born := ck }) (ck + 1)) }, ?_, ⟨rfl, rfl, rfl, by simp⟩, hK _ (fun b hne => ?_) ⟨_, _, (heap_set hb').1, stamped_push hs h2, ?_, ?_⟩⟩
    · simp [Instr.mapUpdate, run_underlying hu, Go.MapKept.run_getObj_map hb', run_checkKey hd hk, run_findKey hd h1, Go.MapKept.run_setObj_map _ hb', Result.andThen]
    · rw [← hw]; exact (heap_set hb').2 b hne
    · intro x hx
      simp only [Array.toList_push, List.mem_append, List.mem_singleton] at hx
      rcases hx with hx | rfl
      · exact hks x hx
      · exact ⟨hk, rfl⟩
    · unfold miset
      rw [filter_ne_self hn]
      simp only [Array.toList_push, List.map_append, List.map_cons, List.map_nil, if_true]
      exact hp.append_right _
  · have hj : es[j]? = some e := by simpa using h2
    have hum : u ∈ m := (MiR.mem hp u).2 ⟨e, List.mem_of_getElem? h2, h3⟩
    have hkey : ∀ e', es[j]? = some e' → ({ e' with key := .string u, val := .bool true } : MapEntry).key = e'.key := fun e' he' => by rw [hj] at he'; cases he'; exact h3.symm
    refine ⟨{ w with heap := w.heap.setIfInBounds r (.map (es.modify j fun e => { e with key := .string u, val := .bool true }) ck) }, ?_, ⟨rfl, rfl, rfl, by simp⟩, hK _ (fun b hne => ?_)
      ⟨_, _, (heap_set hb').1, stamped_modify hs _ _ (fun _ _ => rfl) (fun e' _ he' => hkey e' he'), fun y hy => ⟨isKey_modify hks' _ _ hkey y hy, ?_⟩, ?_⟩⟩
    · simp [Instr.mapUpdate, run_underlying hu, Go.MapKept.run_getObj_map hb', run_checkKey hd hk, run_findKey hd h1, hj, h3, run_keyThatStays hk, Go.MapKept.run_setObj_map _ hb', Result.andThen]
    · rw [← hw]; exact (heap_set hb').2 b hne
    · obtain ⟨i', hi'⟩ := List.mem_iff_getElem?.1 hy
      rw [Array.getElem?_toList, Array.getElem?_modify] at hi'
      split at hi'
      · cases hx : es[i']? with
        | none => rw [hx] at hi'; cases hi'
        | some a => rw [hx] at hi'; simp at hi'; rw [← hi']
      · exact (hks y (List.mem_of_getElem? (by simpa using hi'))).2
    · rw [modify_keys _ _ hkey]
      exact hp.trans ((miset_on nd hum).symm.map _)
theorem mi_del {P : Program} {t : TypeId} {kt ty : TypeId} {z : Value} {r : Nat} {m : Mine} {u : ByteArray} {h : Heap} {K : Value → Heap → Prop}
    (hc : mpC P t = some (kt, .string, z)) (x : MiR h r m) (hK : ∀ h', (∀ b, b ≠ r → h' b = h b) → MiR h' r (miset m u false) → K (.tuple #[]) h') : vvM P (Builtin.delete_ #[t, kt] ty #[.map (some r), .string u]) h K := by
  intro w hw
  have nd := x.nodup
  obtain ⟨et, i, hu, hd, hi, hz⟩ := mpC_spec hc
  obtain ⟨es, ck, hb, hs, hks, hp⟩ := x.e
  rw [← hw] at hb
  have hb' : w.heap[r]? = some (.map es ck) := hb
  have hk : IsKey .string (.string u) := trivial
  have hks' : ∀ x ∈ es.toList, IsKey .string x.key := fun x hx => (hks x hx).1
  rcases findNow_spec hk es.toList 0 hks' with ⟨h1, h2⟩ | ⟨j, e, h1, h2, h3⟩
  · have hn : u ∉ m := fun hu => by obtain ⟨e, he1, he2⟩ := (MiR.mem hp u).1 hu; exact h2 e he1 he2
    refine ⟨_, { w with heap := w.heap.setIfInBounds r (.map es ck) }, ?_, ⟨rfl, rfl, rfl, by simp⟩, hK _ (fun b hne => ?_) ⟨_, _, (heap_set hb').1, hs, hks, ?_⟩⟩
    · simp [Builtin.delete_, run_underlying hu, Go.MapKept.run_getObj_map hb', run_checkKey hd hk, run_findKey hd h1, Go.MapKept.run_setObj_map _ hb', Result.andThen]
    · rw [← hw]; exact (heap_set hb').2 b hne
    · unfold miset
      rw [filter_ne_self hn]
      simpa using hp
  · have hj : es[j]? = some e := by simpa using h2
    have hum : u ∈ m := (MiR.mem hp u).2 ⟨e, List.mem_of_getElem? h2, h3⟩
    have hjl : j < es.size := by
      rcases Nat.lt_or_ge j es.size with h | h
      · exact h
      · rw [Array.getElem?_eq_none h] at hj; cases hj
    have hE : es.eraseIdxIfInBounds j = es.eraseIdx j hjl := by simp [Array.eraseIdxIfInBounds, hjl]
    have hL : (es.eraseIdxIfInBounds j).toList = es.toList.eraseIdx j := by rw [hE]; simp
    refine ⟨_, { w with heap := w.heap.setIfInBounds r (.map (es.eraseIdxIfInBounds j) ck) }, ?_, ⟨rfl, rfl, rfl, by simp⟩, hK _ (fun b hne => ?_) ⟨_, _, (heap_set hb').1, stamped_erase hs _, fun y hy => hks y ?_, ?_⟩⟩
    · simp [Builtin.delete_, run_underlying hu, Go.MapKept.run_getObj_map hb', run_checkKey hd hk, run_findKey hd h1, Go.MapKept.run_setObj_map _ hb', Result.andThen]
    · rw [← hw]; exact (heap_set hb').2 b hne
    · rw [hL] at hy; exact (List.eraseIdx_sublist _ _).subset hy
    · rw [hL]
      have hjl' : j < es.toList.length := by simpa using hjl
      have e1 : es.toList[j] = e := by have := List.getElem?_eq_getElem hjl'; rw [h2] at this; cases this; rfl
      have p1 : (es.toList).Perm (e :: es.toList.eraseIdx j) := by
        have h5 : es.toList = es.toList.take j ++ e :: es.toList.drop (j + 1) := by
          rw [← e1, ← List.drop_eq_getElem_cons hjl', List.take_append_drop]
        rw [List.eraseIdx_eq_take_drop_succ]
        exact (List.Perm.of_eq h5).trans List.perm_middle
      have p2 : (es.toList.map (·.key)).Perm (Value.string u :: (es.toList.eraseIdx j).map (·.key)) := by
        have := p1.map (·.key)
        simpa [h3] using this
      have p3 : (m.map Value.string).Perm (Value.string u :: (m.filter fun k => !decide (k = u)).map Value.string) := by
        have := (filter_ne_perm nd hum).symm.map Value.string
        simpa using this
      have p4 := (p2.symm.trans hp).trans p3
      have p5 := (List.perm_cons _).1 p4
      unfold miset
      simpa using p5
theorem mi_new {P : Program} {t kt : TypeId} {d : TypeDesc} {z : Value} {h : Heap} {K : Value → Heap → Prop} (hc : mpC P t = some (kt, d, z))
    (hK : ∀ r h', h r = none → Ext h h' → MiR h' r [] → K (.map (some r)) h') : vvM P (Instr.makeMap t none) h K := by
  intro w hw
  refine ⟨.map (some w.heap.size), w.alloc (.map #[] 0), rfl, ⟨rfl, rfl, rfl, by simp⟩, ?_⟩
  have ha : abs (w.alloc (.map #[] 0)) = upd (abs w) w.heap.size (.map #[] 0) := abs_alloc w _
  rw [ha, hw]
  have hn : h w.heap.size = none := by rw [← hw]; exact abs_fresh w
  exact hK _ _ hn (Ext.upd hn _) ⟨#[], 0, upd_same _ _ _, stamped_empty 0, by simp, by simp⟩
theorem mi_has {P : Program} {t kt : TypeId} {r : Nat} {m : Mine} {u : ByteArray} {h : Heap} {K : Value → Heap → Prop} (hc : mpC P t = some (kt, .string, .bool false)) (x : MiR h r m) (hK : K (.bool (mhas m u)) h) :
    vvM P (Instr.lookup t (.map (some r)) (.string u) false) h K := by
  refine lookup_vv hc (k := .string u) trivial x.map ?_
  have : lkA (.bool false) false (miF m (.string u)) = .bool (mhas m u) := by
    simp only [miF]
    cases hu : mhas m u
    · simp; rfl
    · simp; rfl
  rw [this]; exact hK
end Go.Den
namespace Go.Den
open Go
set_option linter.unusedVariables false
set_option linter.unusedSimpArgs false
inductive HK where
  | lock (s : Nat)
  | look
  | wat
  | unl (s : Nat)
  | drn (s : Nat)
  | pun (s : Nat)
  | bad
  | shut
def HP.kd (p : HP) (j : Nat) : HK :=
  if badB p.x then .bad else if p.x.kind = 9 then .shut
  else if p.x.kind = 8 then (if j < p.k then .lock j else if j = p.k then .look else if j ≤ 2 * p.k then .drn (j - p.k - 1) else .pun (j - 2 * p.k - 1))
  else if j = 0 then .lock p.s else if j = 1 then .look else if j = 2 then .wat else .unl p.s
def HK.need : HK → Int
  | .lock s => s
  | _ => -1
theorem HP.kd_congr {p p' : HP} (h2 : p'.x = p.x) (h3 : p'.k = p.k) (h4 : p'.s = p.s) (j : Nat) : p'.kd j = p.kd j := by simp only [HP.kd, h2, h3, h4]
theorem HP.kd_need (p : HP) (j : Nat) (hj : j < p.steps) (hat : p.at_ = j) : (p.kd j).need = p.needs := by
  unfold HP.kd HP.needs
  cases hb : badB p.x
  · by_cases h9 : p.x.kind = 9
    · have h1 : p.one = true := by simp [HP.one, h9]
      simp [h9, h1, HK.need]
    · have h1 : p.one = false := by simp [HP.one, hb, h9]
      by_cases h8 : p.x.kind = 8
      · simp only [h8, h1, hat]
        by_cases hk : j < p.k
        · simp [hk, HK.need]
        · simp [hk]
          split
          · rfl
          · split <;> rfl
      · simp only [h8, h9, h1, hat]
        by_cases h0 : j = 0
        · simp [h0, HK.need]
        · simp [h0]
          split
          · rfl
          · split <;> rfl
  · have h1 : p.one = true := by simp [HP.one, hb]
    simp [h1, HK.need]
structure HPI (p : HP) : Prop where
  vs : p.rep.vals = []
  ne : p.poll = false → p.rep.evs = []
  la : p.poll = true → p.all.length = min (p.at_ - (p.k + 1)) p.k
theorem HPI.hp0 (H : Hall) (who : Int) (x : OpD) : HPI (hp0 H who x) := ⟨rfl, fun _ => rfl, fun _ => by simp [Den.hp0]⟩
theorem HPI.step {p : HP} (i : HPI p) (m : Mine) (H : Hall) (n : Int) : HPI (p.step m H n).1 := by
  have hk := hstep_k p m H n
  have hpo : (p.step m H n).1.poll = p.poll := by simp only [HP.poll, HP.one, hk.2.1]
  unfold HP.step at *
  split at hpo
  rotate_left
  · rename_i he; rw [if_neg he]; exact i
  rename_i he
  rw [if_pos he] at hk ⊢
  have hlt := HP.lt_of_en he
  unfold HP.stp at *
  split
  · rename_i hb
    exact ⟨i.vs, i.ne, fun h => by
      have : p.one = true := by simp [HP.one, hb]
      simp [HP.poll, HP.one, hb] at h⟩
  rename_i hb
  split
  · rename_i h9
    refine ⟨?_, fun _ => ?_, fun h => ?_⟩
    · dsimp only; split <;> exact i.vs
    · have := i.ne (by simp [HP.poll, HP.one, h9])
      dsimp only; split <;> exact this
    · simp [HP.poll, HP.one, h9] at h
  rename_i h9
  split
  · rename_i h8
    have hb' : badB p.x = false := by simpa using hb
    have ho : p.one = false := by simp [HP.one, hb', h9]
    have hp : p.poll = true := by simp [HP.poll, ho, h8]
    have hst : p.steps = 3 * p.k + 1 := by simp [HP.steps, ho, h8]
    have la := i.la hp
    have hnp : ∀ q : HP, q.x = p.x → ¬ q.poll = false := fun q hq h => by
      have : q.poll = p.poll := by simp only [HP.poll, HP.one, hq]
      rw [this, hp] at h; cases h
    unfold HP.stpP
    split
    · exact ⟨i.vs, fun h => absurd h (hnp _ rfl), fun _ => by show p.all.length = min (p.at_ + 1 - (p.k + 1)) p.k; omega⟩
    split
    · exact ⟨i.vs, fun h => absurd h (hnp _ rfl), fun _ => by show p.all.length = min (p.at_ + 1 - (p.k + 1)) p.k; omega⟩
    split
    · exact ⟨i.vs, fun h => absurd h (hnp _ rfl), fun _ => by show (p.all ++ [_]).length = min (p.at_ + 1 - (p.k + 1)) p.k; simp; omega⟩
    · exact ⟨i.vs, fun h => absurd h (hnp _ rfl), fun _ => by show p.all.length = min (p.at_ + 1 - (p.k + 1)) p.k; omega⟩
  rename_i h8
  have hnp : ∀ q : HP, q.x = p.x → ¬ q.poll = true := fun q hq h => by simp [HP.poll, hq, h8] at h
  have ne := i.ne (by simpa using hnp p rfl)
  unfold HP.stpW
  split
  · exact ⟨i.vs, fun _ => ne, fun h => absurd h (hnp _ rfl)⟩
  split
  · exact ⟨i.vs, fun _ => ne, fun h => absurd h (hnp _ rfl)⟩
  split
  · split
    · exact ⟨i.vs, fun _ => ne, fun h => absurd h (hnp _ rfl)⟩
    split
    · exact ⟨i.vs, fun _ => ne, fun h => absurd h (hnp _ rfl)⟩
    · exact ⟨i.vs, fun _ => ne, fun h => absurd h (hnp _ rfl)⟩
  · exact ⟨i.vs, fun _ => ne, fun h => absurd h (hnp _ rfl)⟩
end Go.Den
namespace Go.Proofs.YtcnphhhcknhhaaaGreat
open Go Go.Den Go.MapKept
set_option linter.unusedSimpArgs false
set_option linter.unusedVariables false
set_option maxRecDepth 20000
def MineR (T : Tags) (h : Heap) (g : Tag) (q : Nat) (m : Mine) : Prop := ∃ r, h q = some (.cells #[.map (some r)] ty_heed_Mine (0, 0)) ∧ T q = g ++ [0] ∧ MiR h r m ∧ T r = g ++ [1]
theorem MineR.kp {U : Tag → Prop} {T T' : Tags} {h h' : Heap} {g : Tag} {q : Nat} {m : Mine} (x : MineR T h g q m) (k : Kp U T h T' h') (o : Off U g) : MineR T' h' g q m := by
  obtain ⟨r, h1, h2, h3, h4⟩ := x
  obtain ⟨es, ck, e1, e2⟩ := h3.e
  have a := k.at h1 h2 (o.at _)
  have b := k.at e1 h4 (o.at _)
  exact ⟨r, a.1, a.2, ⟨es, ck, b.1, e2⟩, b.2⟩
def IntB (F : Heap) (b : Nat) (n : Int) : Prop := F b = some (.cells #[.int .i64 n] ty_int (0, 0))
def PtB (F : Heap) (b q : Nat) : Prop := F b = some (.cells #[ptr q] ty_Ptr_heed_Proc (0, 0))
def AlB (F : Heap) (b al k : Nat) : Prop := F b = some (.cells #[.slice (some ⟨al, 0, none⟩) k k] ty_Sl_Sl_api_Event (0, 0))
def PlB (F : Heap) (fv : Value) (f : FuncId) (cap : Array Value) : Prop := ∃ b, fv = .func (.func fn_heed_Proc_plain_c1) #[] #[ptr b] ∧ F b = some (.cells #[.func (.func f) #[] cap] ty_func_Ptr_hall_Hall (0, 0))
def ActF (F : Heap) (q mq al : Nat) (p : HP) (fv : Value) : HK → Prop
  | .lock s => ∃ b1 b2, fv = .func (.func fn_heed_Proc_locked_c1) #[] #[ptr b1, ptr b2] ∧ IntB F b1 p.who ∧ IntB F b2 s
  | .look => ∃ b1 b2, fv = .func (.func fn_heed_Proc_look_c1) #[] #[ptr b1, ptr b2] ∧ IntB F b1 p.who ∧ PtB F b2 q
  | .wat => ∃ b1 b2 b3 b4 b5 b6 uv, PlB F fv fn_heed_Proc_watch_c1 #[ptr b1, ptr b2, ptr b3, ptr b4, ptr b5, ptr b6] ∧ PtB F b1 q ∧ F b2 = some (.cells #[.bool (decide (p.x.kind = 6))] ty_bool (0, 0)) ∧
    F b3 = some (.cells #[ptr mq] ty_Ptr_heed_Mine (0, 0)) ∧ F b4 = some (.cells (opC p.x uv).toArray ty_api_Op (0, 0)) ∧ IntB F b5 p.who ∧ IntB F b6 p.s
  | .unl s => ∃ b1 b2, PlB F fv fn_heed_Proc_watch_c2 #[ptr b1, ptr b2] ∧ IntB F b1 p.who ∧ IntB F b2 s
  | .drn s => ∃ b1 b2 b3 b4, PlB F fv fn_heed_Proc_poll_c1 #[ptr b1, ptr b2, ptr b3, ptr b4] ∧ IntB F b1 p.who ∧ IntB F b2 s ∧ AlB F b3 al p.k ∧ PtB F b4 q
  | .pun s => ∃ b1 b2 b3 b4 b5, PlB F fv fn_heed_Proc_poll_c2 #[ptr b1, ptr b2, ptr b3, ptr b4, ptr b5] ∧ IntB F b1 p.who ∧ IntB F b2 s ∧ IntB F b3 p.k ∧ AlB F b4 al p.k ∧ PtB F b5 q
  | .bad => ∃ b, fv = .func (.func fn_heed_New_c1) #[] #[ptr b] ∧ PtB F b q
  | .shut => ∃ b1 b2, fv = .func (.func fn_heed_New_c2) #[] #[ptr b1, ptr b2] ∧ IntB F b1 p.who ∧ PtB F b2 q
theorem PlB.ext {F F' : Heap} {fv : Value} {f : FuncId} {cap : Array Value} (e : Ext F F') (x : PlB F fv f cap) : PlB F' fv f cap := by
  obtain ⟨b, h1, h2⟩ := x
  exact ⟨b, h1, e _ _ h2⟩
theorem ActF.ext {F F' : Heap} {q mq al : Nat} {p : HP} {fv : Value} {k : HK} (e : Ext F F') (x : ActF F q mq al p fv k) : ActF F' q mq al p fv k := by
  cases k with
  | lock s => obtain ⟨b1, b2, h1, h2, h3⟩ := x; exact ⟨b1, b2, h1, e _ _ h2, e _ _ h3⟩
  | look => obtain ⟨b1, b2, h1, h2, h3⟩ := x; exact ⟨b1, b2, h1, e _ _ h2, e _ _ h3⟩
  | wat => obtain ⟨b1, b2, b3, b4, b5, b6, uv, h0, h1, h2, h3, h4, h5, h6⟩ := x; exact ⟨b1, b2, b3, b4, b5, b6, uv, h0.ext e, e _ _ h1, e _ _ h2, e _ _ h3, e _ _ h4, e _ _ h5, e _ _ h6⟩
  | unl s => obtain ⟨b1, b2, h1, h2, h3⟩ := x; exact ⟨b1, b2, h1.ext e, e _ _ h2, e _ _ h3⟩
  | drn s => obtain ⟨b1, b2, b3, b4, h0, h1, h2, h3, h4⟩ := x; exact ⟨b1, b2, b3, b4, h0.ext e, e _ _ h1, e _ _ h2, e _ _ h3, e _ _ h4⟩
  | pun s => obtain ⟨b1, b2, b3, b4, b5, h0, h1, h2, h3, h4, h5⟩ := x; exact ⟨b1, b2, b3, b4, b5, h0.ext e, e _ _ h1, e _ _ h2, e _ _ h3, e _ _ h4, e _ _ h5⟩
  | bad => obtain ⟨b, h1, h2⟩ := x; exact ⟨b, h1, e _ _ h2⟩
  | shut => obtain ⟨b1, b2, h1, h2, h3⟩ := x; exact ⟨b1, b2, h1, e _ _ h2, e _ _ h3⟩
theorem ActF.congr {F : Heap} {q mq al : Nat} {p p' : HP} {fv : Value} {k : HK} (h1 : p'.who = p.who) (h2 : p'.x = p.x) (h3 : p'.k = p.k) (h4 : p'.s = p.s) (x : ActF F q mq al p fv k) : ActF F q mq al p' fv k := by
  cases k <;> simpa only [ActF, h1, h2, h3, h4] using x
def hpC (p : HP) (av ev : Value) : List Value := [.int .i64 p.placed, av, .int .i64 p.at_, .int .u64 p.t.now, .int .u64 p.t.seq, .bool p.t.closed, .int .i64 p.rep.err, .slice none 0 0, ev, .bool p.rep.lost]
structure HPX (T : Tags) (h : Heap) (g : Tag) (q mq al n : Nat) (p : HP) (av ev : Value) (fv cv : Nat → Value) (evl : List Evt) : Prop where
  hp : h q = some (.cells (hpC p av ev).toArray ty_heed_Proc (0, 0))
  tp : T q = g ++ [0]
  ac : Rw T h (g ++ [1]) 2 ty_heed_act av n (seqF n fun j => [.int .i64 (p.kd j).need, fv j])
  fn : ∀ j, j < n → ActF (fz T h) q mq al p (fv j) (p.kd j)
  al : p.poll = true → h al = some (.cells ((List.range p.k).map cv).toArray ty_Sl_api_Event (0, 0)) ∧ T al = g ++ [2]
  av : p.poll = true → ∀ i, i < p.k → Sl 8 EvR (fz T h) (cv i) (p.all.getD i [])
  ev : Sl 8 EvR (fz T h) ev evl
def HPB (T : Tags) (h : Heap) (g : Tag) (q mq al n : Nat) (p : HP) : Prop := ∃ av ev fv cv, HPX T h g q mq al n p av ev fv cv []
def HPR (T : Tags) (h : Heap) (g : Tag) (q mq : Nat) (p : HP) : Prop := HPI p ∧ (∀ l ∈ p.all, l.length ≤ 16) ∧ ∃ al av ev fv cv, HPX T h g q mq al p.steps p av ev fv cv (if p.done then p.rep.evs else [])
theorem HPX.kp {U : Tag → Prop} {T T' : Tags} {h h' : Heap} {g : Tag} {q mq al n : Nat} {p : HP} {av ev : Value} {fv cv : Nat → Value} {evl : List Evt} (x : HPX T h g q mq al n p av ev fv cv evl) (k : Kp U T h T' h') (o : Off U g) (u : ¬ U []) : HPX T' h' g q mq al n p av ev fv cv evl :=
  ⟨(k.at x.hp x.tp (o.at _)).1, (k.at x.hp x.tp (o.at _)).2, x.ac.kp k (o.at _), fun j hj => (x.fn j hj).ext (k.ext u), fun hp => k.at (x.al hp).1 (x.al hp).2 (o.at _), fun hp i hi => (x.av hp i hi).ext (@EvR.ext) (k.ext u), x.ev.ext (@EvR.ext) (k.ext u)⟩
theorem HPB.kp {U : Tag → Prop} {T T' : Tags} {h h' : Heap} {g : Tag} {q mq al n : Nat} {p : HP} (x : HPB T h g q mq al n p) (k : Kp U T h T' h') (o : Off U g) (u : ¬ U []) : HPB T' h' g q mq al n p := by
  obtain ⟨av, ev, fv, cv, x⟩ := x
  exact ⟨av, ev, fv, cv, x.kp k o u⟩
theorem HPR.kp {U : Tag → Prop} {T T' : Tags} {h h' : Heap} {g : Tag} {q mq : Nat} {p : HP} (x : HPR T h g q mq p) (k : Kp U T h T' h') (o : Off U g) (u : ¬ U []) : HPR T' h' g q mq p := by
  obtain ⟨i, l, al, av, ev, fv, cv, x⟩ := x
  exact ⟨i, l, al, av, ev, fv, cv, x.kp k o u⟩
theorem HPB.hpr {T : Tags} {h : Heap} {g : Tag} {q mq al : Nat} {p : HP} (x : HPB T h g q mq al p.steps p) (i : HPI p) (h0 : p.all = []) (hd : p.done = false) : HPR T h g q mq p := by
  obtain ⟨av, ev, fv, cv, x⟩ := x
  exact ⟨i, by rw [h0]; simp, al, av, ev, fv, cv, by rw [hd]; exact x⟩
theorem HPX.st {T : Tags} {h : Heap} {g : Tag} {q mq al n : Nat} {p p' : HP} {av ev ev' : Value} {fv cv : Nat → Value} {evl : List Evt} (x : HPX T h g q mq al n p av ev fv cv evl) (w : Wf T h) {c : Array Value} (hc : c = (hpC p' av ev').toArray) (h1 : p'.who = p.who) (h2 : p'.x = p.x) (h3 : p'.k = p.k) (h4 : p'.s = p.s) {evl' : List Evt} (h5 : p'.all = p.all)
    (h6 : Sl 8 EvR (fz T h) ev' evl') :
    Only (fun t => t = g ++ [0]) T h T (upd h q (.cells c ty_heed_Proc (0, 0))) ∧ HPX T (upd h q (.cells c ty_heed_Proc (0, 0))) g q mq al n p' av ev' fv cv evl' := by
  have o : Only (fun t => t = g ++ [0]) T h T (upd h q (.cells c ty_heed_Proc (0, 0))) := Only.upd w x.hp x.tp
  have u : ¬ (fun t => t = g ++ [0]) ([] : Tag) := by simp
  have hpo : p'.poll = p.poll := by simp only [HP.poll, HP.one, h2]
  refine ⟨o, by rw [upd_same', hc], x.tp, ?_, fun j hj => ?_, fun hp => ?_, fun hp i hi => ?_, h6.ext (@EvR.ext) (o.ext u)⟩
  · have : (seqF n fun j => [.int .i64 (p'.kd j).need, fv j]) = seqF n fun j => [.int .i64 (p.kd j).need, fv j] := seqF_congr fun j _ => by rw [HP.kd_congr h2 h3 h4]
    rw [this]
    exact x.ac.kp o.k (by simp)
  · rw [HP.kd_congr h2 h3 h4]
    exact ((x.fn j hj).ext (o.ext u)).congr h1 h2 h3 h4
  · rw [hpo] at hp
    rw [h3]
    exact o.k.at (x.al hp).1 (x.al hp).2 (by simp)
  · rw [hpo] at hp
    rw [h5]
    exact (x.av hp i (by omega)).ext (@EvR.ext) (o.ext u)
theorem bdHAct (n : Int) (f : FuncId) (a b : Array Value) : bdV (binf P ty_heed_act) [(0, .int .i64 n), (1, .func (.func f) a b)] = some (.agg #[.int .i64 n, .func (.func f) a b]) := by kernel_rfl
theorem bsHAct : bsI P ty_Sl_heed_act = some (ty_heed_act, 2, #[.int .i64 0, .nilFunc]) := by kernel_rfl
theorem unHAct : P.underlying ty_Sl_heed_act = some (.slice ty_heed_act) := by kernel_rfl
theorem apHAct : apC P ty_heed_act = some (2, 16, 2) := by kernel_rfl
@[simp] theorem one_fnv (f : Fn) (a b : Array Value) : (Value.func f a b).oneCell' = true := rfl
theorem hadd_ok {T : Tags} {h : Heap} {g : Tag} {q mq al n : Nat} {p : HP} (w : Wf T h) (gg : Gd g) (x : HPB T h g q mq al n p) (hn : n < 1000) (f : FuncId) (cap : Array Value) (hf : ActF (fz T h) q mq al p (.func (.func f) #[] cap) (p.kd n)) {K : Value → Heap → Prop}
    (hk : ∀ T' h', Only (pre g) T h T' h' → HPB T' h' g q mq al (n + 1) p → K (.tuple #[]) h') : callM P fn_heed_Proc_add #[ptr q, .int .i64 (p.kd n).need, .func (.func f) #[] cap] h K := by
  apply e_heed_Proc_add
  unfold d_heed_Proc_add
  obtain ⟨av, ev, fv, cv, x⟩ := x
  have cp := x.hp
  simp -implicitDefEqProofs only [hpC] at cp
  simp -implicitDefEqProofs [ld_at cp, cel_of cp, stm_at cp, stm_upd, ld_same, cel_same, over, bdHAct]
  refine Rw.app bsHAct unHAct apHAct (by omega) (by simp) (by simp) w x.ac (by simp [maxLen]; omega) (by omega) (by omega) (by simp) fun a v' T1 h1 o1 r1 => ?_
  have u1 : ¬ (fun t => t = g ++ [1]) ([] : Tag) := by simp
  have b := o1.k.at x.hp x.tp (by simp)
  have cp := b.1
  simp -implicitDefEqProofs only [hpC] at cp
  have o2 : Only (fun t => t = g ++ [0]) T1 h1 T1 (upd h1 q (.cells (hpC p v' ev).toArray ty_heed_Proc (0, 0))) := Only.upd o1.wf b.1 b.2
  have u2 : ¬ (fun t => t = g ++ [0]) ([] : Tag) := by simp
  have ho := r1.one
  rw [stm_at (n := 1) (v := v') cp (by simp [ho.2]) (by simp) (by simp [ho.1, ho.2])]
  have hov : over #[.int .i64 p.placed, av, .int .i64 p.at_, .int .u64 p.t.now, .int .u64 p.t.seq, .bool p.t.closed, .int .i64 p.rep.err, .slice none 0 0, ev, .bool p.rep.lost] 1 v'.cells.toList = (hpC p v' ev).toArray := by
    rw [r1.one.2]; simp [over, hpC]
  rw [hov]
  have uu : ¬ pre g ([] : Tag) := gg.nil
  have oo : Only (pre g) T h T1 (upd h1 q (.cells (hpC p v' ev).toArray ty_heed_Proc (0, 0))) := (o1.mono fun _ hh => eq_pre hh).trans (o2.mono fun _ hh => eq_pre hh)
  refine hk T1 _ oo ⟨v', ev, fun j => if j = n then .func (.func f) #[] cap else fv j, cv, by rw [upd_same'], b.2, ?_, fun j hj => ?_, fun hp => ?_, fun hp i hi => (x.av hp i hi).ext (@EvR.ext) (oo.ext uu), x.ev.ext (@EvR.ext) (oo.ext uu)⟩
  · have e1 : (seqF (n + 1) fun j => [.int .i64 (p.kd j).need, if j = n then .func (.func f) #[] cap else fv j]) = (seqF n fun j => [.int .i64 (p.kd j).need, fv j]) ++ [.int .i64 (p.kd n).need, .func (.func f) #[] cap] := by
      rw [seqF_succ]
      congr 1
      · exact seqF_congr fun j hj => by rw [if_neg (by omega)]
      · simp -implicitDefEqProofs
    rw [e1]
    exact r1.kp o2.k (by simp)
  · by_cases hjn : j = n
    · subst hjn
      simp -implicitDefEqProofs only [if_true]
      exact hf.ext (oo.ext uu)
    · simp -implicitDefEqProofs only [if_neg hjn]
      exact (x.fn j (by omega)).ext (oo.ext uu)
  · have a1 := o1.k.at (x.al hp).1 (x.al hp).2 (by simp)
    exact o2.k.at a1.1 a1.2 (by simp)
theorem hplain_ok {T : Tags} {h : Heap} {g : Tag} {q mq al n : Nat} {p : HP} (w : Wf T h) (gg : Gd g) (x : HPB T h g q mq al n p) (hn : n < 1000) (f : FuncId) (cap : Array Value) (hne : (p.kd n).need = -1)
    (hf : ∀ F fv, Ext (fz T h) F → PlB F fv f cap → ActF F q mq al p fv (p.kd n)) {K : Value → Heap → Prop}
    (hk : ∀ T' h', Only (pre g) T h T' h' → HPB T' h' g q mq al (n + 1) p → K (.tuple #[]) h') : callM P fn_heed_Proc_plain #[ptr q, .func (.func f) #[] cap] h K := by
  apply e_heed_Proc_plain
  unfold d_heed_Proc_plain
  refine nw_intro fun v1 h1 n1 e1 c1 => ?_
  have o1 : Only non T h T h1 := Only.of_ext w e1
  have c1' : fz T h1 v1 = some (.cells #[.func (.func f) #[] cap] ty_func_Ptr_hall_Hall (0, 0)) := fz_at c1 (w v1 n1)
  simp -implicitDefEqProofs only [ov_s]
  rw [← hne]
  exact hadd_ok o1.wf gg (x.kp o1.k (Off.non _) (not_non _)) hn _ _ (hf _ _ (fz_of_ext e1) ⟨v1, rfl, c1'⟩) fun T' h' o' x' => hk T' h' ((o1.mono non_up).trans o') x'
theorem hlocked_ok {T : Tags} {h : Heap} {g : Tag} {q mq al n s : Nat} {p : HP} (w : Wf T h) (gg : Gd g) (x : HPB T h g q mq al n p) (hn : n < 1000) (hkd : p.kd n = .lock s) {K : Value → Heap → Prop}
    (hk : ∀ T' h', Only (pre g) T h T' h' → HPB T' h' g q mq al (n + 1) p → K (.tuple #[]) h') : callM P fn_heed_Proc_locked #[ptr q, .int .i64 p.who, .int .i64 s] h K := by
  apply e_heed_Proc_locked
  unfold d_heed_Proc_locked
  refine nw_intro fun v1 h1 n1 e1 c1 => ?_
  refine nw_intro fun v3 h3 n3 e3 c3 => ?_
  have o1 : Only non T h T h3 := Only.of_ext w (e1.trans e3)
  have c1 := e3 _ _ c1
  simp -implicitDefEqProofs [ld_at c3, cel_of c3, stm_at c3, stm_upd, ld_same, cel_same, over]
  have n3' : h v3 = none := fresh_of e1 n3
  have hne : (p.kd n).need = s := by rw [hkd]; rfl
  rw [← hne]
  refine hadd_ok o1.wf gg (x.kp o1.k (Off.non _) (not_non _)) hn _ _ ?_ fun T' h' o' x' => hk T' h' ((o1.mono non_up).trans o') x'
  rw [hkd]
  exact ⟨v1, v3, rfl, fz_at c1 (w v1 n1), fz_at c3 (w v3 n3')⟩
theorem hlook_ok {T : Tags} {h : Heap} {g : Tag} {q mq al n : Nat} {p : HP} (w : Wf T h) (gg : Gd g) (x : HPB T h g q mq al n p) (hn : n < 1000) (hkd : p.kd n = .look) {K : Value → Heap → Prop}
    (hk : ∀ T' h', Only (pre g) T h T' h' → HPB T' h' g q mq al (n + 1) p → K (.tuple #[]) h') : callM P fn_heed_Proc_look #[ptr q, .int .i64 p.who] h K := by
  apply e_heed_Proc_look
  unfold d_heed_Proc_look
  refine nw_intro fun v1 h1 n1 e1 c1 => ?_
  refine nw_intro fun v3 h3 n3 e3 c3 => ?_
  have o1 : Only non T h T h3 := Only.of_ext w (e1.trans e3)
  have c1 := e3 _ _ c1
  simp -implicitDefEqProofs [ld_at c1, cel_of c1, stm_at c1, stm_upd, ld_same, cel_same, over]
  have n3' : h v3 = none := fresh_of e1 n3
  have hne : (p.kd n).need = -1 := by rw [hkd]; rfl
  rw [← hne]
  refine hadd_ok o1.wf gg (x.kp o1.k (Off.non _) (not_non _)) hn _ _ ?_ fun T' h' o' x' => hk T' h' ((o1.mono non_up).trans o') x'
  rw [hkd]
  exact ⟨v3, v1, rfl, fz_at c3 (w v3 n3'), fz_at c1 (w v1 n1)⟩
theorem hedone_ok {T : Tags} {h : Heap} {g : Tag} {q mq : Nat} {p : HP} (x : HPR T h g q mq p) {K : Value → Heap → Prop} (hk : K (.bool p.done) h) : callM P fn_heed_Proc_Done #[ptr q] h K := by
  apply e_heed_Proc_Done
  unfold d_heed_Proc_Done
  obtain ⟨hi, hl, al, av, ev, fv, cv, x⟩ := x
  have cp := x.hp
  simp -implicitDefEqProofs only [hpC] at cp
  simp -implicitDefEqProofs [ld_at cp, cel_of cp, stm_at cp, stm_upd, ld_same, cel_same, over, x.ac.len]
  refine kb (a := p.done) hk ?_
  simp -implicitDefEqProofs [HP.done]
theorem heplaced_ok {T : Tags} {h : Heap} {g : Tag} {q mq : Nat} {p : HP} (x : HPR T h g q mq p) {K : Value → Heap → Prop} (hk : K (.int .i64 p.placed) h) : callM P fn_heed_Proc_Placed #[ptr q] h K := by
  apply e_heed_Proc_Placed
  unfold d_heed_Proc_Placed
  obtain ⟨hi, hl, al, av, ev, fv, cv, x⟩ := x
  have cp := x.hp
  simp -implicitDefEqProofs only [hpC] at cp
  simp -implicitDefEqProofs [ld_at cp, cel_of cp, stm_at cp, stm_upd, ld_same, cel_same, over]
  exact hk
theorem hewaits_ok {T : Tags} {h : Heap} {g : Tag} {q mq : Nat} {p : HP} (x : HPR T h g q mq p) {K : Value → Heap → Prop} (hk : K (.int .i64 p.waits) h) : callM P fn_heed_Proc_Waits #[ptr q] h K := by
  apply e_heed_Proc_Waits
  unfold d_heed_Proc_Waits
  refine hedone_ok x ?_
  unfold d_heed_Proc_Waits_1
  cases hd : p.done with
  | true => simp; exact kv hk (by simp [HP.waits, hd])
  | false =>
    simp -implicitDefEqProofs
    unfold d_heed_Proc_Waits_2
    obtain ⟨hi, hl, al, av, ev, fv, cv, x⟩ := x
    have cp := x.hp
    simp -implicitDefEqProofs only [hpC] at cp
    have hlt : p.at_ < p.steps := by simpa [HP.done] using hd
    obtain ⟨b, rb, ia⟩ := x.ac.1.ia (k := .i64) hlt
    have hcl : cel h b (p.at_ * 2) = some (.int .i64 (p.kd p.at_).need) := by
      have h1 := x.ac.1.cels rb (o := p.at_ * 2) (m := 2) (by omega)
      rw [seqF_at (sz := 2) (fun i _ => rfl) hlt] at h1
      exact (cels_get h1).2 0 (by simp)
    simp -implicitDefEqProofs [ld_at cp, cel_of cp, stm_at cp, stm_upd, ld_same, cel_same, over, ia, hcl]
    exact kv hk (by simp [HP.waits, hd, HP.kd_need p p.at_ hlt rfl])
theorem heenabled_ok {T : Tags} {h : Heap} {g gh : Tag} {q mq hp : Nat} {p : HP} {H : Hall} (x : HPR T h g q mq p) (y : HallR T h gh hp H) (hg : HPG H.n p) {K : Value → Heap → Prop} (hk : ∀ h', Ext h h' → K (.bool (p.enabled H)) h') : callM P fn_heed_Proc_Enabled #[ptr q, ptr hp] h K := by
  apply e_heed_Proc_Enabled
  unfold d_heed_Proc_Enabled
  refine hedone_ok x ?_
  unfold d_heed_Proc_Enabled_1
  cases hd : p.done with
  | true =>
    simp -implicitDefEqProofs
    exact kb (hk h (Ext.refl h)) (by simp [HP.enabled, hd])
  | false =>
    simp -implicitDefEqProofs
    refine hewaits_ok x ?_
    have hwt : p.waits = p.needs := by simp [HP.waits, hd]
    rw [hwt]
    by_cases hneg : p.needs < 0
    · simp -implicitDefEqProofs [hneg]
      exact kb (hk h (Ext.refl h)) (by simp [HP.enabled, hd, hneg])
    · simp -implicitDefEqProofs [hneg]
      refine hewaits_ok x ?_
      rw [hwt]
      obtain ⟨s, hs, hsn⟩ : ∃ s : Nat, p.needs = s ∧ s < H.n := by
        unfold HP.needs at hneg ⊢
        have hk' := hg.k
        have hs' := hg.s
        split at hneg
        · omega
        · rename_i h1
          rw [if_neg h1]
          split at hneg
          · rename_i h8
            rw [if_pos h8]
            split at hneg
            · rename_i hlt; rw [if_pos hlt]; exact ⟨_, rfl, by omega⟩
            · omega
          · rename_i h8
            rw [if_neg h8]
            split at hneg
            · rename_i h0; rw [if_pos h0]; exact ⟨_, rfl, by omega⟩
            · omega
      rw [hs]
      refine free_ok y hsn fun h' e' => ?_
      exact kb (hk h' e') (by rw [hs] at hneg; simp [HP.enabled, hd, hs, hneg])
end Go.Proofs.YtcnphhhcknhhaaaGreat
namespace Go.Proofs.YtcnphhhcknhhaaaGreat
open Go Go.Den Go.MapKept
set_option linter.unusedSimpArgs false
set_option linter.unusedVariables false
set_option maxRecDepth 20000
theorem mpMine : mpC P ty_Map_string_bool = some (ty_string, .string, .bool false) := by kernel_rfl
theorem unMine : P.underlying ty_Map_string_bool = some (.map ty_string ty_bool) := by kernel_rfl
theorem bdMine (r : Option Nat) : bdV (binf P ty_heed_Mine) [(0, .map r)] = some (.agg #[.map r]) := by kernel_rfl
theorem newMine_ok {T : Tags} {h : Heap} {g : Tag} (w : Wf T h) (gg : Gd g) {K : Value → Heap → Prop} (hk : ∀ T' h' q, Only non T h T' h' → h q = none → MineR T' h' g q [] → K (ptr q) h') : callM P fn_heed_NewMine #[] h K := by
  apply e_heed_NewMine
  unfold d_heed_NewMine
  refine mi_new mpMine fun r h1 n1 e1 m1 => ?_
  obtain ⟨es, ck, cr, mr⟩ := m1.e
  have o1 : Only non T h (tset T r (g ++ [1])) h1 := Only.enew _ w e1 n1 cr
  simp -implicitDefEqProofs [bdMine]
  refine nw_tag o1.wf (g ++ [0]) fun q T2 h2 n2 o2 t2 c2 => ?_
  have b := o2.k.at cr (tset_same T r (g ++ [1])) (not_non _)
  have nq : h q = none := fresh_of e1 n2
  exact hk T2 h2 q (o1.trans o2) nq ⟨r, c2, t2, ⟨es, ck, b.1, mr⟩, b.2⟩
theorem mcount_ok {T : Tags} {h : Heap} {g : Tag} {q : Nat} {m : Mine} (x : MineR T h g q m) {K : Value → Heap → Prop} (hk : K (.int .i64 m.length) h) : callM P fn_heed_Mine_Count #[ptr q] h K := by
  apply e_heed_Mine_Count
  unfold d_heed_Mine_Count
  obtain ⟨r, c1, t1, m1, t2⟩ := x
  simp -implicitDefEqProofs [ld_at c1, cel_of c1, stm_at c1, stm_upd, ld_same, cel_same, over]
  exact mi_len unMine m1 hk
theorem mhas_ok {T : Tags} {h : Heap} {g : Tag} {q : Nat} {m : Mine} (x : MineR T h g q m) (u : ByteArray) {K : Value → Heap → Prop} (hk : K (.bool (mhas m u)) h) : callM P fn_heed_Mine_Has #[ptr q, .string u] h K := by
  apply e_heed_Mine_Has
  unfold d_heed_Mine_Has
  obtain ⟨r, c1, t1, m1, t2⟩ := x
  simp -implicitDefEqProofs [ld_at c1, cel_of c1, stm_at c1, stm_upd, ld_same, cel_same, over]
  exact mi_has mpMine m1 hk
theorem mset_ok {T : Tags} {h : Heap} {g : Tag} {q : Nat} {m : Mine} (w : Wf T h) (gg : Gd g) (x : MineR T h g q m) (u : ByteArray) (on : Bool) {K : Value → Heap → Prop} (hk : ∀ h', Only (pre g) T h T h' → MineR T h' g q (miset m u on) → K (.tuple #[]) h') : callM P fn_heed_Mine_set #[ptr q, .string u, .bool on] h K := by
  apply e_heed_Mine_set
  unfold d_heed_Mine_set
  obtain ⟨r, c1, t1, m1, t2⟩ := x
  obtain ⟨es, ck, cr, mr⟩ := m1.e
  have ne : q ≠ r := fun e => by subst e; rw [c1] at cr; cases cr
  have fin : ∀ h', (∀ b, b ≠ r → h' b = h b) → MiR h' r (miset m u on) → K (.tuple #[]) h' := fun h' k m' => by
    obtain ⟨es', ck', cr', mr'⟩ := m'.e
    have e : h' = upd h r (.map es' ck') := upd_of k cr'
    refine hk h' ?_ ⟨r, by rw [k q ne]; exact c1, t1, m', t2⟩
    rw [e]
    exact Only.upd w cr (by rw [t2]; exact pre_app _ _)
  cases on with
  | true =>
    simp -implicitDefEqProofs
    unfold d_heed_Mine_set_1
    simp -implicitDefEqProofs [ld_at c1, cel_of c1, stm_at c1, stm_upd, ld_same, cel_same, over]
    exact mi_set mpMine m1 fin
  | false =>
    simp -implicitDefEqProofs
    unfold d_heed_Mine_set_2
    simp -implicitDefEqProofs [ld_at c1, cel_of c1, stm_at c1, stm_upd, ld_same, cel_same, over]
    exact mi_del mpMine m1 fin
def HPR0 (T : Tags) (h : Heap) (g : Tag) (q : Nat) (p : HP) : Prop := h q = some (.cells (hpC p (.slice none 0 0) (.slice none 0 0)).toArray ty_heed_Proc (0, 0)) ∧ T q = g ++ [0] ∧ p.all = [] ∧ p.rep.evs = []
theorem HPR0.hpb {T : Tags} {h : Heap} {g : Tag} {q : Nat} {p : HP} (x : HPR0 T h g q p) (hp : p.poll = false) (mq : Nat) : HPB T h g q mq 0 0 p := by
  refine ⟨.slice none 0 0, .slice none 0 0, fun _ => .nilFunc, fun _ => .nilFunc, x.1, x.2.1, ?_, fun j hj => by omega, fun h => (by rw [hp] at h; cases h), fun h => (by rw [hp] at h; cases h), ?_⟩
  · exact Rw.nil _ _ _ _ _
  · exact .inl ⟨rfl, _, _, rfl⟩
theorem hwat_ok {T : Tags} {h : Heap} {g gh : Tag} {q mq hp : Nat} {p : HP} {H : Hall} (w : Wf T h) (gg : Gd g) (d2 : Off (pre g) gh) (x : HPB T h g q mq 0 0 p) (y : HallR T h gh hp H) (hc : 1 ≤ H.c.stripes ∧ H.c.stripes ≤ 8) (hb : badB p.x = false) (h9 : p.x.kind ≠ 9) (h8 : p.x.kind ≠ 8)
    (hs : p.s = (stripeOf p.x.user H.c.stripes).toNat) (hu : p.x.user.size ≤ maxLen) {uv : Value} (ou : One uv) {K : Value → Heap → Prop}
    (hk : ∀ T' h', Only (pre g) T h T' h' → HPB T' h' g q mq 0 4 p → K (.tuple #[]) h') : callM P fn_heed_Proc_watch #[ptr q, ptr hp, ptr mq, .int .i64 p.who, .agg (opC p.x uv).toArray] h K := by
  have k0 : p.kd 0 = .lock p.s := by simp [HP.kd, hb, h9, h8]
  have k1 : p.kd 1 = .look := by simp [HP.kd, hb, h9, h8]
  have k2 : p.kd 2 = .wat := by simp [HP.kd, hb, h9, h8]
  have k3 : p.kd 3 = .unl p.s := by simp [HP.kd, hb, h9, h8]
  apply e_heed_Proc_watch
  unfold d_heed_Proc_watch
  refine nw_intro fun v1 h1 n1 e1 c1 => ?_
  refine nw_intro fun v3 h3 n3 e3 c3 => ?_
  refine nw_intro fun v5 h5 n5 e5 c5 => ?_
  refine nw_agg fun v7 h7 n7 e7 c7 => ?_
  have e07 := ((e1.trans e3).trans e5).trans e7
  have o7 : Only non T h T h7 := Only.of_ext w e07
  have b7 : cel h7 v7 1 = some (.string p.x.user) := by simp [cel_of c7, opC]
  simp -implicitDefEqProofs [b7]
  refine hstripe_ok p.x.user hu (y.up o7 (Off.non _) (not_non _)) hc.2 ?_
  unfold d_heed_Proc_watch_1
  have hsi : stripeOf p.x.user H.c.stripes = (p.s : Int) := by have := stripeOf_lt (u := p.x.user) (n := H.c.stripes) hc.1; omega
  rw [hsi, zcInt]
  refine nw_st rfl rfl (by simp) fun v13 h13 n13 e13 c13 => ?_
  have b13 : cel h13 v7 0 = some (.int .i64 p.x.kind) := by simp [cel_of (e13 _ _ c7), opC]
  simp -implicitDefEqProofs [b13]
  have zcBool : zc P ty_bool = some #[.bool false] := by kernel_rfl
  rw [zcBool]
  refine nw_st rfl rfl (by simp) fun v19 h19 n19 e19 c19 => ?_
  have e09 := (e07.trans e13).trans e19
  have o9 : Only non T h T h19 := Only.of_ext w e09
  have T1 : h19 v1 = some (.cells #[ptr q] ty_Ptr_heed_Proc (0, 0)) ∧ T v1 = [] := ⟨e19 _ _ (e13 _ _ (e7 _ _ (e5 _ _ (e3 _ _ c1)))), w v1 n1⟩
  have T3 : h19 v3 = some (.cells #[ptr mq] ty_Ptr_heed_Mine (0, 0)) ∧ T v3 = [] := ⟨e19 _ _ (e13 _ _ (e7 _ _ (e5 _ _ c3))), w v3 (fresh_of e1 n3)⟩
  have T5 : h19 v5 = some (.cells #[.int .i64 p.who] ty_int (0, 0)) ∧ T v5 = [] := ⟨e19 _ _ (e13 _ _ (e7 _ _ c5)), w v5 (fresh_of (e1.trans e3) n5)⟩
  have T7 : h19 v7 = some (.cells (opC p.x uv).toArray ty_api_Op (0, 0)) ∧ T v7 = [] := ⟨e19 _ _ (e13 _ _ c7), w v7 (fresh_of ((e1.trans e3).trans e5) n7)⟩
  have T13 : h19 v13 = some (.cells #[.int .i64 p.s] ty_int (0, 0)) ∧ T v13 = [] := ⟨e19 _ _ c13, w v13 (fresh_of e07 n13)⟩
  have T19 : h19 v19 = some (.cells #[.bool (decide (p.x.kind = 6))] ty_bool (0, 0)) ∧ T v19 = [] := ⟨by simpa using c19, w v19 (fresh_of (e07.trans e13) n19)⟩
  have c1 := T1.1
  have c5 := T5.1
  have c13 := T13.1
  simp -implicitDefEqProofs [ld_at c1, cel_of c1, stm_at c1, ld_at c5, cel_of c5, stm_at c5, ld_at c13, cel_of c13, stm_at c13, stm_upd, ld_same, cel_same, over]
  refine hlocked_ok o9.wf gg (x.kp o9.k (Off.non _) (not_non _)) (by omega) k0 fun Ta ha oa xa => ?_
  unfold d_heed_Proc_watch_2
  have c1 := (oa.see T1 gg.nil).1
  have c5 := (oa.see T5 gg.nil).1
  simp -implicitDefEqProofs [ld_at c1, cel_of c1, stm_at c1, ld_at c5, cel_of c5, stm_at c5, stm_upd, ld_same, cel_same, over]
  refine hlook_ok oa.wf gg xa (by omega) k1 fun Tb hb' ob xb => ?_
  have oab := oa.trans ob
  unfold d_heed_Proc_watch_3
  have c1 := (oab.see T1 gg.nil).1
  simp -implicitDefEqProofs [ld_at c1, cel_of c1, stm_at c1, stm_upd, ld_same, cel_same, over]
  refine hplain_ok ob.wf gg xb (by omega) _ _ (by rw [k2]; rfl) (fun F fv e pl => ?_) fun Tc hc' oc xc => ?_
  · rw [k2]
    have ff : ∀ {b o}, h19 b = some o ∧ T b = [] → F b = some o := fun {b o} hh => e _ _ (fz_at (oab.see hh gg.nil).1 (oab.see hh gg.nil).2)
    exact ⟨v1, v19, v3, v7, v5, v13, uv, pl, ff T1, ff T19, ff T3, ff T7, ff T5, ff T13⟩
  have oabc := oab.trans oc
  unfold d_heed_Proc_watch_4
  have c1 := (oabc.see T1 gg.nil).1
  simp -implicitDefEqProofs [ld_at c1, cel_of c1, stm_at c1, stm_upd, ld_same, cel_same, over]
  refine hplain_ok oc.wf gg xc (by omega) _ _ (by rw [k3]; rfl) (fun F fv e pl => ?_) fun Td hd' od xd => ?_
  · rw [k3]
    have ff : ∀ {b o}, h19 b = some o ∧ T b = [] → F b = some o := fun {b o} hh => e _ _ (fz_at (oabc.see hh gg.nil).1 (oabc.see hh gg.nil).2)
    exact ⟨v5, v13, pl, ff T5, ff T13⟩
  exact hk _ _ ((o9.mono non_up).trans (oabc.trans od)) xd
theorem unSlSlEv : P.underlying ty_Sl_Sl_api_Event = some (.slice ty_Sl_api_Event) := by kernel_rfl
theorem apSlEv : apC P ty_Sl_api_Event = some (1, 24, 1) := by kernel_rfl
theorem zcSlSlEv : zc P ty_Sl_Sl_api_Event = some #[.slice none 0 0] := by kernel_rfl
theorem made_one (v : Value) (n : Nat) : madeCells #[v] (n * 1) = ((List.range n).map fun _ => v).toArray := by
  apply Array.ext
  · simp -implicitDefEqProofs [madeCells]
  · intro i h1 h2
    simp -implicitDefEqProofs [madeCells, Nat.mod_one]
/-- What stays while a Poll's acts are added. -/
def PoI (T0 : Tags) (h0 : Heap) (g : Tag) (q mq al : Nat) (p : HP) (v1 v3 v8 v14 : Nat) (n : Nat) (h' : Heap) : Prop :=
  ∃ T', Only (pre g) T0 h0 T' h' ∧ HPB T' h' g q mq al n p ∧ (h' v1 = some (.cells #[ptr q] ty_Ptr_heed_Proc (0, 0)) ∧ T' v1 = []) ∧ (h' v3 = some (.cells #[.int .i64 p.who] ty_int (0, 0)) ∧ T' v3 = []) ∧
    (h' v8 = some (.cells #[.int .i64 p.k] ty_int (0, 0)) ∧ T' v8 = []) ∧ (h' v14 = some (.cells #[.slice (some ⟨al, 0, none⟩) p.k p.k] ty_Sl_Sl_api_Event (0, 0)) ∧ T' v14 = [])
theorem PoI.go {T0 : Tags} {h0 : Heap} {g : Tag} {q mq al : Nat} {p : HP} {v1 v3 v8 v14 : Nat} {T' T'' : Tags} {h' h'' : Heap} {m : Nat} (gg : Gd g) (o0 : Only (pre g) T0 h0 T' h') (a1 : h' v1 = some (.cells #[ptr q] ty_Ptr_heed_Proc (0, 0)) ∧ T' v1 = []) (a3 : h' v3 = some (.cells #[.int .i64 p.who] ty_int (0, 0)) ∧ T' v3 = [])
    (a8 : h' v8 = some (.cells #[.int .i64 p.k] ty_int (0, 0)) ∧ T' v8 = []) (a14 : h' v14 = some (.cells #[.slice (some ⟨al, 0, none⟩) p.k p.k] ty_Sl_Sl_api_Event (0, 0)) ∧ T' v14 = []) (o : Only (pre g) T' h' T'' h'') (x : HPB T'' h'' g q mq al m p) : PoI T0 h0 g q mq al p v1 v3 v8 v14 m h'' :=
  ⟨T'', o0.trans o, x, o.see a1 gg.nil, o.see a3 gg.nil, o.see a8 gg.nil, o.see a14 gg.nil⟩
theorem hpoll_ok {T : Tags} {h : Heap} {g gh : Tag} {q mq hp : Nat} {p : HP} {H : Hall} (w : Wf T h) (gg : Gd g) (d2 : Off (pre g) gh) (x : HPR0 T h g q p) (y : HallR T h gh hp H) (hc : H.c.stripes = p.k) (hk8 : p.k ≤ 8) (hb : badB p.x = false) (h8 : p.x.kind = 8) {K : Value → Heap → Prop}
    (hk : ∀ T' h' al, Only (pre g) T h T' h' → HPB T' h' g q mq al p.steps p → K (.tuple #[]) h') : callM P fn_heed_Proc_poll #[ptr q, ptr hp, .int .i64 p.who] h K := by
  have h9 : p.x.kind ≠ 9 := by omega
  have hone : p.one = false := by simp [HP.one, hb, h9]
  have hst : p.steps = 3 * p.k + 1 := by simp [HP.steps, hone, h8]
  have k0 : ∀ j, j < p.k → p.kd j = .lock j := fun j hj => by simp [HP.kd, hb, h8, hj]
  have k1 : p.kd p.k = .look := by simp [HP.kd, hb, h8]
  have k2 : ∀ j, j < p.k → p.kd (p.k + 1 + j) = .drn j := fun j hj => by
    have e1 : ¬ p.k + 1 + j < p.k := by omega
    have e2 : ¬ p.k + 1 + j = p.k := by omega
    have e3 : p.k + 1 + j ≤ 2 * p.k := by omega
    have e4 : p.k + 1 + j - p.k - 1 = j := by omega
    simp -implicitDefEqProofs only [HP.kd, hb, h8, e1, e2, e3, e4, if_true, if_false, Bool.false_eq_true]
    simp -implicitDefEqProofs
  have k3 : ∀ j, j < p.k → p.kd (2 * p.k + 1 + j) = .pun j := fun j hj => by
    have e1 : ¬ 2 * p.k + 1 + j < p.k := by omega
    have e2 : ¬ 2 * p.k + 1 + j = p.k := by omega
    have e3 : ¬ 2 * p.k + 1 + j ≤ 2 * p.k := by omega
    have e4 : 2 * p.k + 1 + j - 2 * p.k - 1 = j := by omega
    simp -implicitDefEqProofs only [HP.kd, hb, h8, e1, e2, e3, e4, if_true, if_false, Bool.false_eq_true]
    simp -implicitDefEqProofs
  have hpo : p.poll = true := by simp [HP.poll, hone, h8]
  apply e_heed_Proc_poll
  unfold d_heed_Proc_poll
  refine nw_intro fun v1 h1 n1 e1 c1 => ?_
  refine nw_intro fun v3 h3 n3 e3 c3 => ?_
  have o3 : Only non T h T h3 := Only.of_ext w (e1.trans e3)
  refine config_ok (y.up o3 (Off.non _) (not_non _)) fun h5 e5 => ?_
  unfold d_heed_Proc_poll_1
  rw [zcInt]
  simp -implicitDefEqProofs [fdV, cfgC, hc]
  refine nw_st (v := .int .i64 p.k) rfl rfl (by simp) fun v8 h6 n6 e6 c6 => ?_
  simp -implicitDefEqProofs [ld_at c6, cel_of c6, stm_at c6, stm_upd, ld_same, cel_same, over]
  refine makeSlice_vv unSlSlEv apSlEv zcSlEv (n := p.k) (by omega) (by omega) (by unfold maxLen; omega) fun al h7 n7 e7 c7 => ?_
  unfold d_heed_Proc_poll_2
  rw [zcSlSlEv]
  refine nw_st (v := .slice (some ⟨al, 0, none⟩) p.k p.k) rfl rfl (by simp) fun v14 h9 n9 e9 c9 => ?_
  have e06 := ((e1.trans e3).trans e5).trans e6
  have e08 := (e06.trans e7).trans e9
  have n7' : h al = none := fresh_of e06 n7
  have c7 := e9 _ _ c7
  have oT : Only non T h (tset T al (g ++ [2])) h9 := Only.enew _ w e08 n7' c7
  have ne : ∀ b, b ≠ al → h b = none → (tset T al (g ++ [2])) b = [] := fun b hb hn => by rw [tset_ne hb]; exact w b hn
  have c8 := e9 _ _ (e7 _ _ c6)
  have m1 : v1 ≠ al := ne_fresh (e6 _ _ (e5 _ _ (e3 _ _ c1))) n7
  have m3 : v3 ≠ al := ne_fresh (e6 _ _ (e5 _ _ c3)) n7
  have m8 : v8 ≠ al := ne_fresh c6 n7
  have m14 : v14 ≠ al := Ne.symm (ne_fresh ‹h7 al = _› n9)
  have I0 : PoI T h g q mq al p v1 v3 v8 v14 0 h9 := by
    refine ⟨tset T al (g ++ [2]), oT.mono non_up, ?_, ⟨e9 _ _ (e7 _ _ (e6 _ _ (e5 _ _ (e3 _ _ c1)))), ne _ m1 n1⟩, ⟨e9 _ _ (e7 _ _ (e6 _ _ (e5 _ _ c3))), ne _ m3 (fresh_of e1 n3)⟩, ⟨c8, ne _ m8 (fresh_of ((e1.trans e3).trans e5) n6)⟩, ⟨c9, ne _ m14 (fresh_of (e06.trans e7) n9)⟩⟩
    have b := oT.k.at x.1 x.2.1 (not_non _)
    refine ⟨.slice none 0 0, .slice none 0 0, fun _ => .nilFunc, fun _ => .slice none 0 0, b.1, b.2, Rw.nil _ _ _ _ _, fun j hj => by omega, fun _ => ⟨?_, tset_same _ _ _⟩, fun _ i hi => ?_, ?_⟩
    · rw [c7, made_one]
    · rw [x.2.2.1]; exact .inl ⟨rfl, _, _, rfl⟩
    · exact .inl ⟨rfl, _, _, rfl⟩
  clear e1 e3 e5 e6 e7 e9 c1 c3 c6 c7 c8 c9 n1 n3 n6 n7 n9 e06 e08 oT
  rw [seqM_eq]
  unfold d_heed_Proc_poll_3
  have c8 := I0.choose_spec.2.2.2.2.1.1
  simp -implicitDefEqProofs [ld_at c8, cel_of c8, stm_at c8, stm_upd, ld_same, cel_same, over]
  clear c8
  refine loop_on [3, 5, 6, 7, 16] (fun s h' => ∃ i : Nat, PoI T h g q mq al p v1 v3 v8 v14 i h' ∧ s 17 = .int .i64 i ∧ i ≤ p.k) (fun s _ => (p.k - num (s 17)).toNat) ⟨0, I0, rfl, by omega⟩ ?_
  rintro s h' hf ⟨i, ⟨T', oI, xI, a1, a3, a8, a14⟩, s17, hi⟩
  have s3 : s 3 = ptr v1 := by simpa using hf 3 (by simp)
  have s5 : s 5 = ptr v3 := by simpa using hf 5 (by simp)
  have s6 : s 6 = ptr v8 := by simpa using hf 6 (by simp)
  have s7 : s 7 = ptr v14 := by simpa using hf 7 (by simp)
  have s16 : s 16 = .int .i64 p.k := by simpa using hf 16 (by simp)
  unfold d_heed_Proc_poll_4
  simp -implicitDefEqProofs only [s16, s17, bin_lss, ov_s, cd_b]
  refine ⟨fun hc => ?_, fun hc => ?_⟩
  · have hlt : i < p.k := by have : ((i : Int) < p.k) := by simpa using hc
                             omega
    have hw : IntKind.i64.wrap ((i : Int) + 1) = (i + 1 : Nat) := by rw [wrap64_id (by omega) (by omega)]; omega
    have c1 := a1.1
    have c3 := a3.1
    unfold d_heed_Proc_poll_5
    simp -implicitDefEqProofs [s3, s5, s17, ld_at c1, cel_of c1, stm_at c1, ld_at c3, cel_of c3, stm_at c3, stm_upd, ld_same, cel_same, over]
    refine hlocked_ok oI.wf gg xI (by omega) (k0 i hlt) fun T2 h2 o2 x2 => ?_
    unfold d_heed_Proc_poll_6
    simp -implicitDefEqProofs [s3, s5, s6, s7, s16, s17, hw, -Int.natCast_add]
    exact ⟨⟨i + 1, PoI.go gg oI a1 a3 a8 a14 o2 x2, rfl, by omega⟩, by omega⟩
  have hie : i = p.k := by have : ¬ ((i : Int) < p.k) := by simpa using hc
                           omega
  subst hie
  unfold d_heed_Proc_poll_7
  have c1 := a1.1
  have c3 := a3.1
  simp -implicitDefEqProofs [s3, s5, ld_at c1, cel_of c1, stm_at c1, ld_at c3, cel_of c3, stm_at c3, stm_upd, ld_same, cel_same, over]
  refine hlook_ok oI.wf gg xI (by omega) k1 fun T2 h2 o2 x2 => ?_
  have I2 := PoI.go gg oI a1 a3 a8 a14 o2 x2
  unfold d_heed_Proc_poll_8
  rw [seqM_eq]
  unfold d_heed_Proc_poll_9
  have c8 := I2.choose_spec.2.2.2.2.1.1
  simp -implicitDefEqProofs [s6, ld_at c8, cel_of c8, stm_at c8, stm_upd, ld_same, cel_same, over]
  refine loop_on [3, 5, 6, 7, 28] (fun s h' => ∃ i : Nat, PoI T h g q mq al p v1 v3 v8 v14 (p.k + 1 + i) h' ∧ s 29 = .int .i64 i ∧ i ≤ p.k) (fun s _ => (p.k - num (s 29)).toNat) ⟨0, I2, rfl, by omega⟩ ?_
  clear I2 c8 c1 c3 a1 a3 a8 a14 xI oI x2 o2
  rintro r h3 hf3 ⟨i, ⟨T', oI, xI, a1, a3, a8, a14⟩, r29, hi⟩
  have r3 : r 3 = ptr v1 := by simpa [s3] using hf3 3 (by simp)
  have r5 : r 5 = ptr v3 := by simpa [s5] using hf3 5 (by simp)
  have r6 : r 6 = ptr v8 := by simpa [s6] using hf3 6 (by simp)
  have r7 : r 7 = ptr v14 := by simpa [s7] using hf3 7 (by simp)
  have r28 : r 28 = .int .i64 p.k := by simpa using hf3 28 (by simp)
  unfold d_heed_Proc_poll_10
  simp -implicitDefEqProofs only [r28, r29, bin_lss, ov_s, cd_b]
  refine ⟨fun hc => ?_, fun hc => ?_⟩
  · have hlt : i < p.k := by have : ((i : Int) < p.k) := by simpa using hc
                             omega
    have hw : IntKind.i64.wrap ((i : Int) + 1) = (i + 1 : Nat) := by rw [wrap64_id (by omega) (by omega)]; omega
    unfold d_heed_Proc_poll_11
    rw [zcInt]
    simp -implicitDefEqProofs only [r29]
    refine nw_st (v := .int .i64 i) rfl rfl (by simp) fun v42 h42 n42 e42 c42 => ?_
    have o42 : Only non T' h3 T' h42 := Only.of_ext oI.wf e42
    have c1 := e42 _ _ a1.1
    simp -implicitDefEqProofs [r3, r5, r7, ld_at c1, cel_of c1, stm_at c1, stm_upd, ld_same, cel_same, over]
    refine hplain_ok o42.wf gg (xI.kp o42.k (Off.non _) (not_non _)) (by omega) _ _ (by rw [k2 i hlt]; rfl) (fun F fv e pl => ?_) fun T2 h2 o2 x2 => ?_
    · rw [k2 i hlt]
      have ff : ∀ {b o}, h3 b = some o ∧ T' b = [] → F b = some o := fun {b o} hh => e _ _ (fz_at (e42 _ _ hh.1) hh.2)
      exact ⟨v3, v42, v14, v1, pl, ff a3, e _ _ (fz_at c42 (oI.wf _ n42)), ff a14, ff a1⟩
    unfold d_heed_Proc_poll_12
    simp -implicitDefEqProofs [s3, s5, s6, s7, r3, r5, r6, r7, r28, r29, hw, -Int.natCast_add]
    exact ⟨⟨i + 1, PoI.go gg oI a1 a3 a8 a14 ((o42.mono non_up).trans o2) x2, rfl, by omega⟩, by omega⟩
  have hie : i = p.k := by have : ¬ ((i : Int) < p.k) := by simpa using hc
                           omega
  subst hie
  unfold d_heed_Proc_poll_13
  have c8 := a8.1
  simp -implicitDefEqProofs [r6, ld_at c8, cel_of c8, stm_at c8, stm_upd, ld_same, cel_same, over]
  have I3 : PoI T h g q mq al p v1 v3 v8 v14 (2 * p.k + 1 + 0) h3 := ⟨T', oI, by rw [show 2 * p.k + 1 + 0 = p.k + 1 + p.k by omega]; exact xI, a1, a3, a8, a14⟩
  refine loop_on [3, 5, 6, 7, 36] (fun s h' => ∃ i : Nat, PoI T h g q mq al p v1 v3 v8 v14 (2 * p.k + 1 + i) h' ∧ s 37 = .int .i64 i ∧ i ≤ p.k) (fun s _ => (p.k - num (s 37)).toNat) ⟨0, I3, rfl, by omega⟩ ?_
  clear I3 c8 a1 a3 a8 a14 xI oI
  rintro u h4 hf4 ⟨i, ⟨T', oI, xI, a1, a3, a8, a14⟩, u37, hi⟩
  have u3 : u 3 = ptr v1 := by simpa [r3] using hf4 3 (by simp)
  have u5 : u 5 = ptr v3 := by simpa [r5] using hf4 5 (by simp)
  have u6 : u 6 = ptr v8 := by simpa [r6] using hf4 6 (by simp)
  have u7 : u 7 = ptr v14 := by simpa [r7] using hf4 7 (by simp)
  have u36 : u 36 = .int .i64 p.k := by simpa using hf4 36 (by simp)
  unfold d_heed_Proc_poll_14
  simp -implicitDefEqProofs only [u36, u37, bin_lss, ov_s, cd_b]
  refine ⟨fun hc => ?_, fun hc => ?_⟩
  · have hlt : i < p.k := by have : ((i : Int) < p.k) := by simpa using hc
                             omega
    have hw : IntKind.i64.wrap ((i : Int) + 1) = (i + 1 : Nat) := by rw [wrap64_id (by omega) (by omega)]; omega
    unfold d_heed_Proc_poll_15
    rw [zcInt]
    simp -implicitDefEqProofs only [u37]
    refine nw_st (v := .int .i64 i) rfl rfl (by simp) fun v42 h42 n42 e42 c42 => ?_
    have o42 : Only non T' h4 T' h42 := Only.of_ext oI.wf e42
    have c1 := e42 _ _ a1.1
    simp -implicitDefEqProofs [u3, u5, u6, u7, ld_at c1, cel_of c1, stm_at c1, stm_upd, ld_same, cel_same, over]
    refine hplain_ok o42.wf gg (xI.kp o42.k (Off.non _) (not_non _)) (by omega) _ _ (by rw [k3 i hlt]; rfl) (fun F fv e pl => ?_) fun T2 h2 o2 x2 => ?_
    · rw [k3 i hlt]
      have ff : ∀ {b o}, h4 b = some o ∧ T' b = [] → F b = some o := fun {b o} hh => e _ _ (fz_at (e42 _ _ hh.1) hh.2)
      exact ⟨v3, v42, v8, v14, v1, pl, ff a3, e _ _ (fz_at c42 (oI.wf _ n42)), ff a8, ff a14, ff a1⟩
    unfold d_heed_Proc_poll_16
    simp -implicitDefEqProofs [r3, r5, r6, r7, u3, u5, u6, u7, u36, u37, hw, -Int.natCast_add]
    exact ⟨⟨i + 1, PoI.go gg oI a1 a3 a8 a14 ((o42.mono non_up).trans o2) x2, rfl, by omega⟩, by omega⟩
  have hie : i = p.k := by have : ¬ ((i : Int) < p.k) := by simpa using hc
                           omega
  subst hie
  simp -implicitDefEqProofs
  refine hk T' h4 al oI ?_
  rw [hst, show 3 * p.k + 1 = 2 * p.k + 1 + p.k by omega]
  exact xI
end Go.Proofs.YtcnphhhcknhhaaaGreat
namespace Go.Proofs.YtcnphhhcknhhaaaGreat
open Go Go.Den Go.MapKept
set_option linter.unusedSimpArgs false
set_option linter.unusedVariables false
set_option maxRecDepth 20000
theorem bdMoment : bdV (binf P ty_heed_moment) [(0, .int .i64 (-1))] = some (.agg #[.int .i64 (-1)]) := by kernel_rfl
theorem bdHProc : bdV (binf P ty_heed_Proc) [(0, .agg #[.int .i64 (-1)])] = some (.agg #[.int .i64 (-1), .slice none 0 0, .int .i64 0, .int .u64 0, .int .u64 0, .bool false, .int .i64 0, .slice none 0 0, .slice none 0 0, .bool false]) := by kernel_rfl
theorem zcPHp : zc P ty_Ptr_heed_Proc = some #[.pointer none] := by kernel_rfl
theorem henew_ok (who : Int) (x : OpD) (xw : OpW x) {T : Tags} {h : Heap} {g gh : Tag} {mq hp : Nat} {H : Hall} (w : Wf T h) (gg : Gd g) (d2 : Off (pre g) gh) (y : HallR T h gh hp H) {v : Value} (hv : Sl 1 StrR (fz T h) v x.users) (hl : x.users.length < 1000000) (c8 : 1 ≤ H.c.stripes ∧ H.c.stripes ≤ 8) (hn : (H.n : Int) = H.c.stripes) {K : Value → Heap → Prop}
    (hk : ∀ T' h' q, Only (pre g) T h T' h' → HPR T' h' g q mq (hp0 H who x) → K (ptr q) h') : callM P fn_heed_New #[ptr hp, ptr mq, .int .i64 who, .agg (opC x v).toArray] h K := by
  apply e_heed_New
  unfold d_heed_New
  have hone := hv.one
  refine nw_intro fun v1 h1 n1 e1 c1 => ?_
  refine nw_agg fun v3 h3 n3 e3 c3 => ?_
  simp -implicitDefEqProofs [bdMoment, bdHProc]
  have e03 := e1.trans e3
  have o3 : Only non T h T h3 := Only.of_ext w e03
  refine nw_tag o3.wf (g ++ [0]) fun q T4 h4 n4 o4 t4 c4 => ?_
  have o34 := o3.trans o4
  have c1 := o34.k
  have A1 : h4 v1 = some (.cells #[.int .i64 who] ty_int (0, 0)) ∧ T4 v1 = [] := o4.k.at (e3 _ _ ‹h1 v1 = _›) (w v1 n1) (not_non _)
  have A3 : h4 v3 = some (.cells (opC x v).toArray ty_api_Op (0, 0)) ∧ T4 v3 = [] := o4.k.at c3 (w v3 (fresh_of e1 n3)) (not_non _)
  rw [zcPHp]
  refine nw_st rfl rfl (by simp) fun v9 h9 n9 e9 c9 => ?_
  have o9 : Only non T4 h4 T4 h9 := Only.of_ext o4.wf e9
  have B1 := o9.see A1 (not_non _)
  have B3 := o9.see A3 (not_non _)
  have B9 : h9 v9 = some (.cells #[ptr q] ty_Ptr_heed_Proc (0, 0)) ∧ T4 v9 = [] := ⟨c9, o4.wf v9 n9⟩
  have oT := o34.trans o9
  have b4 := o9.k.at c4 t4 (not_non _)
  have X0 : HPR0 T4 h9 g q (hp0 H who x) := ⟨b4.1, b4.2, rfl, rfl⟩
  rw [seqM_eq]
  have fin : ∀ {T' : Tags} {h' : Heap} {s : Env}, Only (pre g) T4 h9 T' h' → (∃ al, HPB T' h' g q mq al (hp0 H who x).steps (hp0 H who x)) → s 9 = ptr v9 → ov (ldV (some none) (s 9) h') (fun v41 => (retM P [.tmp 8] K) .ret [] (puts s [(40, v41), (8, v41)]) h') := by
    intro T' h' s o hx hs
    have c9 := (o.see B9 gg.nil).1
    simp -implicitDefEqProofs [hs, ld_at c9, cel_of c9, stm_at c9, stm_upd, ld_same, cel_same, over]
    obtain ⟨al, hx⟩ := hx
    refine hk T' h' q ((oT.mono non_up).trans o) (hx.hpr (HPI.hp0 H who x) rfl ?_)
    have : 1 ≤ (hp0 H who x).steps := by unfold HP.steps; split <;> (try split) <;> omega
    have h0 : (hp0 H who x).at_ = 0 := rfl
    simp -implicitDefEqProofs [HP.done, h0]; omega
  unfold d_heed_New_1
  have oa : ldV (some (some 7)) (ptr v3) h9 = some (.agg (opC x v).toArray) := by simp [ld_at B3.1, opC]
  simp -implicitDefEqProofs only [oa, ov_s]
  have hv9 : Sl 1 StrR h9 v x.users := hv.ext (@StrR.ext) ((oT.ext (not_non _)).trans (fz_ext _ _))
  refine modBad_ok x xw hv9 hl fun h10 e10 => ?_
  have o10 : Only non T4 h9 T4 h10 := Only.of_ext o9.wf e10
  have C1 := o10.see B1 (not_non _)
  have C3 := o10.see B3 (not_non _)
  have C9 := o10.see B9 (not_non _)
  have b10 := o10.k.at X0.1 X0.2.1 (not_non _)
  have X : HPR0 T4 h10 g q (hp0 H who x) := ⟨b10.1, b10.2, rfl, rfl⟩
  have y10 := (((y.up o3 (Off.non _) (not_non _)).up o4 (Off.non _) (not_non _)).up o9 (Off.non _) (not_non _)).up o10 (Off.non _) (not_non _)
  have c1 := C1.1
  have c9 := C9.1
  have x0 : cel h10 v3 0 = some (.int .i64 x.kind) := by simp [cel_of C3.1, opC]
  unfold d_heed_New_2
  cases hb : badB x with
  | true =>
    simp -implicitDefEqProofs
    unfold d_heed_New_3
    simp -implicitDefEqProofs [ld_at c9, cel_of c9, stm_at c9, stm_upd, ld_same, cel_same, over]
    have hone : (hp0 H who x).one = true := by simp [HP.one, hp0, hb]
    have hpo : (hp0 H who x).poll = false := by simp [HP.poll, hone]
    have k0 : (hp0 H who x).kd 0 = .bad := by simp [HP.kd, hp0, hb]
    have hst : (hp0 H who x).steps = 1 := by simp [HP.steps, hone]
    have hne : ((hp0 H who x).kd 0).need = -1 := by rw [k0]; rfl
    rw [← hne]
    refine hadd_ok (n := 0) o10.wf gg (X.hpb hpo mq) (by omega) _ _ (by rw [k0]; exact ⟨v9, rfl, fz_at C9.1 C9.2⟩) fun T5 h5 o5 x5 => ?_
    unfold d_heed_New_4
    refine fin ((o10.mono non_up).trans o5) ⟨0, by rw [hst]; exact x5⟩ (by simp)
  | false =>
    simp -implicitDefEqProofs
    unfold d_heed_New_5
    simp -implicitDefEqProofs [x0]
    refine ⟨fun h8 => ?_, fun h8 => ?_⟩
    · unfold d_heed_New_6
      simp -implicitDefEqProofs [ld_at c1, cel_of c1, stm_at c1, ld_at c9, cel_of c9, stm_at c9, stm_upd, ld_same, cel_same, over]
      refine hpoll_ok (p := hp0 H who x) (mq := mq) o10.wf gg d2 X y10 hn.symm (by show H.n ≤ 8; omega) hb h8 fun T5 h5 al o5 x5 => ?_
      unfold d_heed_New_7
      exact fin ((o10.mono non_up).trans o5) ⟨al, x5⟩ (by simp)
    · unfold d_heed_New_8
      simp -implicitDefEqProofs [x0]
      refine ⟨fun h9 => ?_, fun h9 => ?_⟩
      · unfold d_heed_New_9
        simp -implicitDefEqProofs [ld_at c1, cel_of c1, stm_at c1, ld_at c9, cel_of c9, stm_at c9, stm_upd, ld_same, cel_same, over]
        have hone : (hp0 H who x).one = true := by simp [HP.one, hp0, h9]
        have hpo : (hp0 H who x).poll = false := by simp [HP.poll, hone]
        have k0 : (hp0 H who x).kd 0 = .shut := by simp [HP.kd, hp0, hb, h9]
        have hst : (hp0 H who x).steps = 1 := by simp [HP.steps, hone]
        have hne : ((hp0 H who x).kd 0).need = -1 := by rw [k0]; rfl
        rw [← hne]
        refine hadd_ok (n := 0) o10.wf gg (X.hpb hpo mq) (by omega) _ _ (by rw [k0]; exact ⟨v1, v9, rfl, fz_at C1.1 C1.2, fz_at C9.1 C9.2⟩) fun T5 h5 o5 x5 => ?_
        unfold d_heed_New_10
        exact fin ((o10.mono non_up).trans o5) ⟨0, by rw [hst]; exact x5⟩ (by simp)
      · unfold d_heed_New_11
        have oa : ldV (some (some 7)) (ptr v3) h10 = some (.agg (opC x v).toArray) := by simp [ld_at C3.1, opC]
        simp -implicitDefEqProofs [ld_at c1, cel_of c1, stm_at c1, ld_at c9, cel_of c9, stm_at c9, stm_upd, ld_same, cel_same, over, oa]
        have hone : (hp0 H who x).one = false := by simp [HP.one, hp0, hb, h9]
        have hpo : (hp0 H who x).poll = false := by simp [HP.poll, hone]; exact h8
        have hst : (hp0 H who x).steps = 4 := by simp [HP.steps, hone]; exact fun h => absurd h h8
        refine hwat_ok (p := hp0 H who x) o10.wf gg d2 (X.hpb hpo mq) y10 c8 hb h9 h8 rfl xw.s1 hv.one fun T5 h5 o5 x5 => ?_
        unfold d_heed_New_12
        exact fin ((o10.mono non_up).trans o5) ⟨0, by rw [hst]; exact x5⟩ (by simp)
end Go.Proofs.YtcnphhhcknhhaaaGreat
namespace Go.Proofs.YtcnphhhcknhhaaaGreat
open Go Go.Den Go.MapKept
set_option linter.unusedSimpArgs false
set_option linter.unusedVariables false
set_option maxRecDepth 20000
def EvsR (h : Heap) (c : List Value) (l : List Evt) : Prop := ∃ v, c = [v] ∧ Sl 8 EvR h v l
theorem EvsR.ext {h h' : Heap} {c : List Value} {l : List Evt} (e : Ext h h') (x : EvsR h c l) : EvsR h' c l := by
  obtain ⟨v, h1, h2⟩ := x
  exact ⟨v, h1, h2.ext (@EvR.ext) e⟩
theorem rng_set (k : Nat) (f : Nat → Value) (b : Nat) (v : Value) : (((List.range k).map f).toArray.setIfInBounds b v) = ((List.range k).map fun i => if i = b then v else f i).toArray := by
  apply Array.ext
  · simp -implicitDefEqProofs
  · intro i h1 h2
    rw [Array.getElem_setIfInBounds (by simpa using h2)]
    by_cases h : b = i
    · subst h; simp
    · rw [if_neg h]; simp [Ne.symm h]
def rngC (k : Nat) (f : Nat → Nat) : Array Value := ((List.range k).map fun i => Value.int .i64 (f i)).toArray
def restE (ls : List (List Evt)) (p : Nat → Nat) : List (List Evt) := (List.range ls.length).map fun i => (nth ls i).drop (p i)
theorem nth_rest {ls : List (List Evt)} {p : Nat → Nat} {i : Nat} (hi : i < ls.length) : nth (restE ls p) i = (nth ls i).drop (p i) := by
  unfold restE
  show ((List.range ls.length).map _).getD i [] = _
  rw [List.getD_eq_getElem?_getD]
  simp -implicitDefEqProofs [hi]
theorem rest_len (ls : List (List Evt)) (p : Nat → Nat) : (restE ls p).length = ls.length := by simp [restE]
theorem rest_zero (ls : List (List Evt)) : restE ls (fun _ => 0) = ls := by
  apply List.ext_getElem (by simp [restE])
  intro i h1 h2
  simp -implicitDefEqProofs [restE, nth, h2]
theorem rest_set {ls : List (List Evt)} {p : Nat → Nat} {b : Nat} (hb : b < ls.length) : (restE ls p).set b (nth (restE ls p) b).tail = restE ls (fun i => if i = b then p b + 1 else p i) := by
  apply List.ext_getElem (by simp [restE])
  intro i h1 h2
  have hi : i < ls.length := by simpa [restE] using h2
  rw [List.getElem_set]
  by_cases h : b = i
  · subst h
    rw [if_pos rfl, nth_rest hb]
    simp -implicitDefEqProofs [restE]
  · rw [if_neg h]
    simp -implicitDefEqProofs [restE, Ne.symm h]
def bestV (o : Option Nat) : Int := match o with
  | some b => b
  | none => -1
def slen : Value → Nat
  | .slice _ n _ => n
  | _ => 0
theorem row_slen {sz : Nat} {e : TypeId} {h : Heap} {v : Value} {n : Nat} {xs : List Value} (r : Row sz e h v n xs) : slen v = n := by
  rcases r.2 with ⟨rfl, h2⟩ | ⟨g, cap, cur, rfl, _⟩
  · simp -implicitDefEqProofs only [slen]; exact h2.symm
  · rfl
structure MgI (h : Heap) (ls : List (List Evt)) (ab : Nat) (p : Nat → Nat) (out : List Evt) (ov : Value) (h' : Heap) : Prop where
  e : Ext h h'
  ca : h' ab = some (.cells (rngC ls.length p) ty_int (0, 0))
  o : Rf 8 ty_api_Event h h' ov out.length (out.flatMap evC)
  na : rowOf ov ≠ some ab
  m : mergeE ls = out ++ mergeE (restE ls p)
  t : out.length + totE (restE ls p) = totE ls
  le : ∀ i, i < ls.length → p i ≤ (nth ls i).length
theorem rngC_cel {h : Heap} {ab k : Nat} {p : Nat → Nat} (c : h ab = some (.cells (rngC k p) ty_int (0, 0))) {i : Nat} (hi : i < k) : cel h ab i = some (.int .i64 (p i)) := by
  rw [cel_of c]; simp [rngC, hi]
theorem ia_sl {ab k i : Nat} (hi : i < k) : iaV (some (none, 1)) (.slice (some ⟨ab, 0, none⟩) k k) (.int .i64 i) = some (.pointer (some ⟨ab, i, none⟩)) := by
  have : (0 : Int) ≤ i ∧ (i : Int) < k := by omega
  simp -implicitDefEqProofs [iaV, this]
theorem evs_at {F : Heap} {v : Value} {ls : List (List Evt)} (x : Sl 1 EvsR F v ls) {i : Nat} (hi : i < ls.length) : ∃ b q u, iaV (some (none, 1)) v (.int .i64 i) = some (.pointer (some ⟨b, q, none⟩)) ∧ (∀ h', Ext F h' → cel h' b q = some u) ∧ Sl 8 EvR F u (nth ls i) := by
  obtain ⟨b, o, c, i1, i2, i3⟩ := x.at (k := .i64) (i := i) (by omega) (by omega)
  simp -implicitDefEqProofs only [Int.toNat_natCast] at i3
  obtain ⟨u, rfl, hu⟩ := i3
  have e : nth ls i = ls[i] := by simp [nth, hi]
  refine ⟨b, o, u, i1, fun h' e => ?_, by rw [e]; exact hu⟩
  have := (cels_get (cels_ext e i2)).2 0 (by simp)
  simpa using this
theorem ev_seq {F : Heap} {v : Value} {l : List Evt} (x : Sl 8 EvR F v l) {i : Nat} (hi : i < l.length) : ∃ b q, iaV (some (none, 8)) v (.int .i64 i) = some (.pointer (some ⟨b, q, none⟩)) ∧ (∀ h', Ext F h' → cels h' b q 8 = some (evC l[i])) ∧ ∀ h', Ext F h' → cel h' b (q + 7) = some (.int .u64 (l[i].seq)) := by
  obtain ⟨b, q, h1, h2⟩ := ev_ld x hi (k := .i64)
  refine ⟨b, q, h1, h2, fun h' e => ?_⟩
  have := (cels_get (h2 h' e)).2 7 (by simp [evC, presC])
  simpa [evC, presC] using this
theorem hd_rest {ls : List (List Evt)} {p : Nat → Nat} {i : Nat} (hi : i < ls.length) (h : p i < (nth ls i).length) : hdE (nth (restE ls p) i) = (nth ls i)[p i] := by
  rw [nth_rest hi]
  unfold hdE
  rw [List.drop_eq_getElem_cons h]; rfl
theorem rest_ne {ls : List (List Evt)} {p : Nat → Nat} {i : Nat} (hi : i < ls.length) : nth (restE ls p) i ≠ [] ↔ p i < (nth ls i).length := by
  rw [nth_rest hi, ne_eq, List.drop_eq_nil_iff]; omega
theorem best_lt {r : List (List Evt)} {k b : Nat} (h : bestE r k = some b) : b < k ∧ nth r b ≠ [] := ⟨(best_some h).h, (best_some h).ne⟩
theorem merge_ok (ls : List (List Evt)) {T : Tags} {h : Heap} (w : Wf T h) {v : Value} (x : Sl 1 EvsR h v ls) (hl : ls.length ≤ 1000) (ht : totE ls < 1000000) (hn : ∀ i, (nth ls i).length < 1000000) {K : Value → Heap → Prop} (hk : ∀ v' h', Ext h h' → Sl 8 EvR (fz T h') v' (mergeE ls) → K v' h') : callM P fn_feed_Merge #[v] h K := by
  apply e_feed_Merge
  unfold d_feed_Merge
  have hlen := x.len
  simp -implicitDefEqProofs only [hlen, ov_s]
  refine makeSlice_vv unSlInt apInt zcInt (n := ls.length) (by omega) (by omega) (by unfold maxLen; omega) fun ab h1 n1 e1 c1 => ?_
  unfold d_feed_Merge_1
  have I0 : MgI h ls ab (fun _ => 0) [] (.slice none 0 0) h1 := ⟨e1, by rw [c1, made_one]; rfl, by simpa using Rf.nil e1, by simp [rowOf], by simp [rest_zero], by simp [rest_zero], fun i _ => by omega⟩
  refine loop_on [0, 4] (fun s h' => ∃ p out ov, MgI h ls ab p out ov h' ∧ s 3 = ov) (fun s _ => totE ls + 1 - slen (s 3)) ⟨_, _, _, I0, rfl⟩ ?_
  rintro s h2 hf ⟨p, out, ov, I, s3⟩
  have s0 : s 0 = v := by simpa using hf 0 (by simp)
  have s4 : s 4 = .slice (some ⟨ab, 0, none⟩) ls.length ls.length := by simpa using hf 4 (by simp)
  unfold d_feed_Merge_2
  rw [seqM_eq]
  unfold d_feed_Merge_3
  simp -implicitDefEqProofs only [s0, hlen, ov_s]
  refine loop_on [0, 3, 4, 11] (fun s' h' => ∃ i : Nat, h' = h2 ∧ s' 12 = .int .i64 i ∧ i ≤ ls.length ∧ s' 5 = .int .i64 (bestV (bestE (restE ls p) i))) (fun s' _ => (ls.length - num (s' 12)).toNat) ⟨0, rfl, rfl, by omega, rfl⟩ ?_
  rintro r h3 hf3 ⟨i, rfl, r12, hi, r5⟩
  have r0 : r 0 = v := by simpa [s0] using hf3 0 (by simp)
  have r3 : r 3 = ov := by simpa [s3] using hf3 3 (by simp)
  have r4 : r 4 = .slice (some ⟨ab, 0, none⟩) ls.length ls.length := by simpa [s4] using hf3 4 (by simp)
  have r11 : r 11 = .int .i64 ls.length := by simpa using hf3 11 (by simp)
  unfold d_feed_Merge_4
  simp -implicitDefEqProofs only [r11, r12, bin_lss, ov_s, cd_b]
  refine ⟨fun hc => ?_, fun hc => ?_⟩
  · have hlt : i < ls.length := by have : ((i : Int) < ls.length) := by simpa using hc
                                   omega
    have hw : IntKind.i64.wrap ((i : Int) + 1) = (i + 1 : Nat) := by rw [wrap64_id (by omega) (by omega)]; omega
    obtain ⟨b1, q1, u1, i1, i2, i3⟩ := evs_at x hlt
    have i2 := i2 _ I.e
    have a1 := rngC_cel I.ca hlt
    have j1 := ia_sl (ab := ab) hlt
    have l1 := i3.len
    unfold d_feed_Merge_5
    rw [seqM_eq]
    unfold d_feed_Merge_6
    have hrl : ∀ b, b < ls.length → (nth (restE ls p) b ≠ [] ↔ p b < (nth ls b).length) := fun b hb => rest_ne hb
    have hbs : bestE (restE ls p) (i + 1) = match bestE (restE ls p) i with
      | none => if nth (restE ls p) i = [] then none else some i
      | some b => if nth (restE ls p) i ≠ [] ∧ (hdE (nth (restE ls p) i)).seq < (hdE (nth (restE ls p) b)).seq then some i else some b := rfl
    by_cases hp : p i < (nth ls i).length
    rotate_left
    · have hp' : ¬ ((p i : Int) < (nth ls i).length) := by omega
      have hnil : nth (restE ls p) i = [] := by
        rw [nth_rest hlt, List.drop_eq_nil_iff]; omega
      have hbs' : bestE (restE ls p) (i + 1) = bestE (restE ls p) i := by
        rw [hbs]; cases bestE (restE ls p) i <;> simp [hnil]
      simp -implicitDefEqProofs [r12, r4, r0, r5, j1, a1, i1, i2, l1, hp']
      unfold d_feed_Merge_8
      simp -implicitDefEqProofs [r0, r3, r4, r11, r12, s0, s3, s4, hw, -Int.natCast_add]
      exact ⟨⟨i + 1, rfl, by omega, by rw [hbs']; exact r5⟩, by omega⟩
    have hp' : ((p i : Int) < (nth ls i).length) := by omega
    have hne : nth (restE ls p) i ≠ [] := (hrl i hlt).2 hp
    obtain ⟨f1, g1, t1, _, t2⟩ := ev_seq i3 hp
    have t2 := t2 _ I.e
    cases hb : bestE (restE ls p) i with
    | none =>
      rw [hb] at r5 hbs
      have hbs' : bestE (restE ls p) (i + 1) = some i := by rw [hbs]; simp [hne]
      have r5 : r 5 = .int .i64 (-1) := r5
      simp -implicitDefEqProofs [r12, r4, r0, r5, j1, a1, i1, i2, l1, hp']
      unfold d_feed_Merge_7
      simp -implicitDefEqProofs [r0, r3, r4, r11, r12, s0, s3, s4, hw, -Int.natCast_add]
      exact ⟨⟨i + 1, rfl, by omega, by rw [hbs']; rfl⟩, by omega⟩
    | some b =>
      rw [hb] at r5 hbs
      obtain ⟨hbi, hbn⟩ := best_lt hb
      have hbl : b < ls.length := by omega
      have hpb : p b < (nth ls b).length := (hrl b hbl).1 hbn
      obtain ⟨b2, q2, u2, k1, k2, k3⟩ := evs_at x hbl
      have k2 := k2 _ I.e
      have a2 := rngC_cel I.ca hbl
      have j2 := ia_sl (ab := ab) hbl
      obtain ⟨f2, g2, t3, _, t4⟩ := ev_seq k3 hpb
      have t4 := t4 _ I.e
      have r5 : r 5 = .int .i64 b := r5
      have hb0 : ¬ ((b : Int) < 0) := by omega
      have hseq : ((hdE (nth (restE ls p) i)).seq < (hdE (nth (restE ls p) b)).seq) ↔ (nth ls i)[p i].seq < (nth ls b)[p b].seq := by
        rw [hd_rest hlt hp, hd_rest hbl hpb]
      by_cases hs : (nth ls i)[p i].seq < (nth ls b)[p b].seq
      · have hbs' : bestE (restE ls p) (i + 1) = some i := by rw [hbs]; simp [hne, hseq.2 hs]
        simp -implicitDefEqProofs [r12, r4, r0, r5, j1, a1, i1, i2, l1, hp', hb0, j2, a2, k1, k2, t1, t2, t3, t4, hs]
        unfold d_feed_Merge_7
        simp -implicitDefEqProofs [r0, r3, r4, r11, r12, s0, s3, s4, hw, -Int.natCast_add]
        exact ⟨⟨i + 1, rfl, by omega, by rw [hbs']; rfl⟩, by omega⟩
      · have hbs' : bestE (restE ls p) (i + 1) = some b := by rw [hbs]; simp [hne, hseq, hs]
        simp -implicitDefEqProofs [r12, r4, r0, r5, j1, a1, i1, i2, l1, hp', hb0, j2, a2, k1, k2, t1, t2, t3, t4, hs]
        unfold d_feed_Merge_8
        simp -implicitDefEqProofs [r0, r3, r4, r11, r12, s0, s3, s4, hw, -Int.natCast_add]
        exact ⟨⟨i + 1, rfl, by omega, by rw [hbs']; exact r5⟩, by omega⟩
  · have hie : i = ls.length := by have : ¬ ((i : Int) < ls.length) := by simpa using hc
                                   omega
    subst hie
    have hrr : bestE (restE ls p) ls.length = bestE (restE ls p) (restE ls p).length := by rw [rest_len]
    unfold d_feed_Merge_9
    cases hb : bestE (restE ls p) ls.length with
    | none =>
      rw [hb] at r5 hrr
      have r5 : r 5 = .int .i64 (-1) := r5
      have hm : mergeE ls = out := by rw [I.m, merge_none hrr.symm, List.append_nil]
      simp -implicitDefEqProofs [r3, r5]
      refine hk _ _ I.e ?_
      rw [hm]
      exact Row.slE (enc := evC) (R := EvR) (fun e => by simp [evC, presC]) (fun _ => rfl) (I.o.row.fz w I.o.new)
    | some b =>
      rw [hb] at r5 hrr
      obtain ⟨hbi, hbn⟩ := best_lt hb
      have hpb : p b < (nth ls b).length := (rest_ne hbi).1 hbn
      obtain ⟨b2, q2, u2, k1, k2, k3⟩ := evs_at x hbi
      have k2 := k2 _ I.e
      have a2 := rngC_cel I.ca hbi
      have j2 := ia_sl (ab := ab) hbi
      obtain ⟨f2, g2, t3, t5, t4⟩ := ev_seq k3 hpb
      have t5 := t5 _ I.e
      have r5 : r 5 = .int .i64 b := r5
      have hb0 : ¬ ((b : Int) < 0) := by omega
      have ld5 : ldV (some (some 8)) (.pointer (some ⟨f2, g2, none⟩)) h3 = some (.agg (evC (nth ls b)[p b]).toArray) := by
        simp -implicitDefEqProofs [ldV, t5]
      simp -implicitDefEqProofs [r3, r5, hb0]
      unfold d_feed_Merge_10
      simp -implicitDefEqProofs [r0, r5, r4, k1, k2, j2, a2, t3, ld5]
      have htot : totE ls < 1000000 := ht
      have hout : out.length < 1000000 := by have := I.t; omega
      try rw [r3]
      refine app_one (x := .agg (evC (nth ls b)[p b]).toArray) bsEv unSlEv apEv (by omega) (by simp [evC, presC]) (by simp [evC, presC]) I.o.row (by unfold maxLen; omega) (by omega) (by omega) fun a ov' h4 r4' k4 ha => ?_
      have ca4 : h4 ab = some (.cells (rngC ls.length p) ty_int (0, 0)) := k4 _ _ I.ca (Ne.symm I.na)
      have a4 := rngC_cel ca4 hbi
      have hw : IntKind.i64.wrap ((p b : Int) + 1) = (p b + 1 : Nat) := by have := hn b; rw [wrap64_id (by omega) (by omega)]; omega
      have e4 : Ext h h4 := fun k o hk => k4 _ _ (I.e _ _ hk) fun hh => by rw [I.o.new k hh.symm] at hk; cases hk
      have na4 : rowOf ov' ≠ some ab := by
        rcases ha with ha | ⟨j, ha, hj⟩
        · rw [ha]; exact I.na
        · rw [ha]; intro hh; cases hh; rw [I.ca] at hj; cases hj
      have new4 : ∀ g, rowOf ov' = some g → h g = none := fun g hg => by
        rcases ha with ha | ⟨j, ha, hj⟩
        · exact I.o.new g (by rw [← ha]; exact hg)
        · rw [ha] at hg; cases hg; exact fresh_of I.e hj
      unfold d_feed_Merge_11
      simp -implicitDefEqProofs [r5, r4, j2, a4, hw, -Int.natCast_add]
      rw [stm_at (n := 1) (v := .int .i64 (p b + 1 : Nat)) ca4 rfl (by simp [rngC]; omega) (by simp)]
      have hov : over (rngC ls.length p) b (Value.int .i64 (p b + 1 : Nat)).cells.toList = rngC ls.length (fun i => if i = b then p b + 1 else p i) := by
        simp -implicitDefEqProofs only [cells_i, over]
        unfold rngC
        rw [rng_set]
        congr 2
        funext i
        by_cases hib : i = b
        · simp -implicitDefEqProofs [hib]
        · simp -implicitDefEqProofs [hib]
      rw [hov]
      have hap : h ab = none := fresh_of (Ext.refl h) (by
        cases hh : h ab with
        | none => rfl
        | some o => rw [e1 _ _ hh] at c1; rw [n1] at hh; cases hh)
      simp -implicitDefEqProofs [s0, s4, r0, r4, -Int.natCast_add]
      refine ⟨⟨fun i => if i = b then p b + 1 else p i, out ++ [(nth ls b)[p b]], ⟨ext_upd hap e4, upd_same' _ _ _, ?_, na4, ?_, ?_, fun i hi => ?_⟩⟩, ?_⟩
      · refine ⟨ext_upd hap e4, ?_, new4, ?_⟩
        · have : Row 8 ty_api_Event h4 ov' (out ++ [(nth ls b)[p b]]).length ((out ++ [(nth ls b)[p b]]).flatMap evC) := by simpa using r4'
          exact this.of_at fun g hg => upd_ne fun hh => na4 (by rw [hg, hh])
        · intro u hu
          obtain ⟨e, _, hu⟩ := List.mem_flatMap.1 hu
          simp -implicitDefEqProofs [evC, presC] at hu
          rcases hu with rfl | rfl | rfl | rfl | rfl | rfl | rfl | rfl <;> rfl
      · rw [I.m, merge_some hrr.symm, rest_set hbi, hd_rest hbi hpb, List.append_assoc]; rfl
      · have h1 := I.t
        have h2 := tot_set (r := restE ls p) (b := b) (by rw [rest_len]; exact hbi) hbn
        rw [rest_set hbi] at h2
        simp; omega
      · show (if i = b then p b + 1 else p i) ≤ _
        split
        · rename_i hib; subst hib; omega
        · exact I.le i hi
      · have h1 := row_slen r4'
        have h2 := row_slen I.o.row
        have h3 := I.t
        have h4 : 0 < totE (restE ls p) := by
          rcases Nat.eq_zero_or_pos (totE (restE ls p)) with h | h
          · exact absurd (tot_zero.1 h b) hbn
          · exact h
        rw [s3, h1, h2]; omega
end Go.Proofs.YtcnphhhcknhhaaaGreat
