/- Words, plain data and contracts of the Go functions that this claim reaches. No condition beyond the hypotheses that each theorem states. -/
import Derived.Test.YtcnphhhcknhhaaaGreatT5
set_option linter.unusedSimpArgs false
set_option linter.unusedVariables false
namespace Go.Proofs.YtcnphhhcknhhaaaGreat
open Go Go.Den Go.MapKept
set_option linter.unusedSimpArgs false
set_option linter.unusedVariables false
set_option maxRecDepth 20000
theorem evNe (p q : Evt) {x y : Operand} {K : Value → Prop} : pvM P (do eqGuard .neq qrZ x y (.agg (evC p).toArray) (.agg (evC q).toArray); binOp .neq qrZ (.agg (evC p).toArray) (.agg (evC q).toArray)) K = K (.bool (!decide (p = q))) := by
 simp -implicitDefEqProofs only [evC, presC, List.cons_append, List.nil_append]
 rw [pv_neq (d := 5) (b := (p.user.toList == q.user.toList) && (((p.old.st == q.old.st) && ((p.old.pr == q.old.pr) && ((p.old.lv == q.old.lv) && true))) && (((p.new.st == q.new.st) && ((p.new.pr == q.new.pr) && ((p.new.lv == q.new.lv) && true))) && ((p.seq == q.seq) && true)))) (by kernel_rfl) (by omega) (by kernel_rfl)]
 have : ((p.user.toList == q.user.toList) && (((p.old.st == q.old.st) && ((p.old.pr == q.old.pr) && ((p.old.lv == q.old.lv) && true))) && (((p.new.st == q.new.st) && ((p.new.pr == q.new.pr) && ((p.new.lv == q.new.lv) && true))) && ((p.seq == q.seq) && true)))) = decide (p = q) := by
  rw [str_beq, Bool.eq_iff_iff]
  obtain ⟨u, ⟨a, b, c⟩, ⟨d, e, f⟩, s⟩ := p
  obtain ⟨u', ⟨a', b', c'⟩, ⟨d', e', f'⟩, s'⟩ := q
  simp -implicitDefEqProofs [and_assoc]
 rw [this]
theorem ev_ld {F : Heap} {v : Value} {l : List Evt} (x : Sl 8 EvR F v l) {i : Nat} (hi : i < l.length) {k : IntKind} : ∃ b p, iaV (some (none, 8)) v (.int k i) = some (.pointer (some ⟨b, p, none⟩)) ∧ ∀ h', Ext F h' → cels h' b p 8 = some (evC l[i]) := by
 obtain ⟨b, p, c, h1, h2, h3⟩ := x.at (k := k) (i := i) (by omega) (by omega)
 refine ⟨b, p, h1, fun h' e => ?_⟩
 have hc : c = evC l[i] := h3
 subst hc
 exact cels_ext e h2
theorem pres_ld {F : Heap} {v : Value} {l : List Pres} (x : Sl 3 PresR F v l) {i : Nat} (hi : i < l.length) {k : IntKind} : ∃ b p, iaV (some (none, 3)) v (.int k i) = some (.pointer (some ⟨b, p, none⟩)) ∧ ∀ h', Ext F h' → cels h' b p 3 = some (presC l[i]) := by
 obtain ⟨b, p, c, h1, h2, h3⟩ := x.at (k := k) (i := i) (by omega) (by omega)
 refine ⟨b, p, h1, fun h' e => ?_⟩
 have hc : c = presC l[i] := h3
 subst hc
 exact cels_ext e h2
variable {K : Value → Heap → Prop}
set_option maxHeartbeats 1000000 in
theorem evSame_ok (xs ys : List Evt) {h : Heap} {v u : Value} (x : Sl 8 EvR h v xs) (y : Sl 8 EvR h u ys) (hl : xs.length < 1000000) (hk : K (.bool (decide (xs = ys))) h) : callM P qghZ #[v, u] h K := by
  apply qqiZ
  unfold qgXZ
  have lx := x.len
  have ly := y.len
  by_cases hlen : xs.length = ys.length
  rotate_left
  · have hne : xs ≠ ys := fun e => hlen (by rw [e])
    have hi : ¬ (xs.length : Int) = ys.length := by omega
    simp -implicitDefEqProofs [lx, ly, hi]
    rw [decide_eq_false hne] at hk; exact hk
  · have hi : (xs.length : Int) = ys.length := by omega
    simp -implicitDefEqProofs [lx, ly, hi]
    unfold qkcZ
    rw [seqM_eq]
    unfold qkbZ
    refine loop_on [0, 1, 4] (fun s h' => h' = h ∧ ∃ i : Nat, i ≤ xs.length ∧ s 5 = .int .i64 i ∧ xs.take i = ys.take i) (fun s _ => (xs.length - num (s 5)).toNat) ⟨rfl, 0, by omega, rfl, by simp⟩ ?_
    rintro s h1 hf ⟨rfl, i, hi, s5, hT⟩
    have s0 : s 0 = v := by simpa using hf 0 (by simp)
    have s1 : s 1 = u := by simpa using hf 1 (by simp)
    have s4 : s 4 = .bool false := by simpa using hf 4 (by simp)
    unfold qkaZ
    simp -implicitDefEqProofs only [s5, s0, lx, bin_lss, ov_s, cd_b]
    refine ⟨fun hc => ?_, fun hc => ?_⟩
    · have hlt : i < xs.length := by have : ((i : Int) < xs.length) := by simpa using hc
                                     omega
      have hly : i < ys.length := by omega
      have hw : IntKind.i64.wrap ((i : Int) + 1) = (i + 1 : Nat) := by rw [wrap64_id (by omega) (by omega)]; omega
      obtain ⟨b, p, i1, i2⟩ := ev_ld x (k := .i64) hlt
      obtain ⟨b', p', j1, j2⟩ := ev_ld y (k := .i64) hly
      unfold qjZZ
      simp -implicitDefEqProofs only [s0, s1, s5, i1, j1, ov_s, ldV_n (i2 _ (Ext.refl _)), ldV_n (j2 _ (Ext.refl _)), evNe, cd_b]
      refine ⟨fun hd => ?_, fun hd => ?_⟩
      · have hne : xs[i] ≠ ys[i] := by simpa using hd
        have hne' : xs ≠ ys := fun e => hne (by subst e; rfl)
        unfold qjXZ
        simp -implicitDefEqProofs [s4]
        rw [decide_eq_false hne'] at hk; exact hk
      · have he : xs[i] = ys[i] := by simpa using hd
        unfold qjYZ
        simp -implicitDefEqProofs [s0, s1, s4, s5, hw, -Int.natCast_add]
        exact ⟨⟨i + 1, by omega, rfl, take_eq_succ hT hlt hly he⟩, by omega⟩
    · have : i = xs.length := by have : ¬ ((i : Int) < xs.length) := by simpa using hc
                                 omega
      subst this
      have he : xs = ys := by
        rw [List.take_of_length_le (Nat.le_refl _), List.take_of_length_le (by omega)] at hT; exact hT
      simp -implicitDefEqProofs
      rw [decide_eq_true he] at hk; exact hk
deriving instance DecidableEq for Reply
def rplC (r : Reply) (vv ev : Value) : List Value := [.int .i64 r.err, vv, ev, .bool r.lost]
structure RpX (h : Heap) (r : Reply) (vv ev : Value) : Prop where
 v : Sl 3 PresR h vv r.vals
 e : Sl 8 EvR h ev r.evs
theorem RpX.ext {h h' : Heap} {r : Reply} {vv ev : Value} (x : RpX h r vv ev) (e : Ext h h') : RpX h' r vv ev := ⟨x.v.ext (@PresR.ext) e, x.e.ext (@EvR.ext) e⟩
theorem RpX.no (h : Heap) {r : Reply} (h1 : r.vals = []) (h2 : r.evs = []) : RpX h r (.slice none 0 0) (.slice none 0 0) := ⟨.inl ⟨h1, _, _, rfl⟩, .inl ⟨h2, _, _, rfl⟩⟩
theorem rep_eq (a b : Reply) : a = b ↔ a.err = b.err ∧ a.lost = b.lost ∧ a.vals = b.vals ∧ a.evs = b.evs := by
 cases a; cases b; simp only [Reply.mk.injEq]; constructor <;> (rintro ⟨h1, h2, h3, h4⟩; exact ⟨h1, by assumption, by assumption, by assumption⟩)
set_option maxHeartbeats 4000000 in
theorem repSame_ok (a b : Reply) {h : Heap} {va ea vb eb : Value} (x : RpX h a va ea) (y : RpX h b vb eb) (h1 : a.vals.length < 1000000) (h2 : a.evs.length < 1000000) (hk : ∀ h', Ext h h' → K (.bool (decide (a = b))) h') : callM P qgeZ #[.agg (rplC a va ea).toArray, .agg (rplC b vb eb).toArray] h K := by
 apply qqfZ
 unfold qgSZ
 refine nw_agg fun v1 g1 n1 e1 c1 => ?_
 refine nw_agg fun v3 g3 n3 e3 c3 => ?_
 have c1 := e3 _ _ c1
 have e0 := e1.trans e3
 have lx := x.v.len
 have ly := y.v.len
 have lex := x.e.len
 have ley := y.e.len
 have c1 : g3 v1 = some (.cells #[.int .i64 a.err, va, ea, .bool a.lost] quZ (0, 0)) := c1
 have c3 : g3 v3 = some (.cells #[.int .i64 b.err, vb, eb, .bool b.lost] quZ (0, 0)) := c3
 have ne : a ≠ b ↔ ¬ (a.err = b.err ∧ a.lost = b.lost ∧ a.vals = b.vals ∧ a.evs = b.evs) := not_congr (rep_eq a b)
 by_cases q1 : a.err = b.err
 rotate_left
 ·have : a ≠ b := ne.2 fun hh => q1 hh.1
  simp -implicitDefEqProofs [ld_at c1, cel_of c1, stm_at c1, ld_at c3, cel_of c3, stm_at c3, stm_upd, ld_same, cel_same, over, q1]
  exact kb (hk _ e0) (by simp [this])
 by_cases q2 : a.lost = b.lost
 rotate_left
 ·have : a ≠ b := ne.2 fun hh => q2 hh.2.1
  have hbq : (a.lost == b.lost) = false := by simpa using q2
  simp -implicitDefEqProofs [ld_at c1, cel_of c1, stm_at c1, ld_at c3, cel_of c3, stm_at c3, stm_upd, ld_same, cel_same, over, q1, hbq]
  exact kb (hk _ e0) (by simp [this])
 by_cases q3 : a.vals.length = b.vals.length
 rotate_left
 ·have : a ≠ b := ne.2 fun hh => q3 (by rw [hh.2.2.1])
  have q3' : ¬ (a.vals.length : Int) = b.vals.length := by omega
  simp -implicitDefEqProofs [ld_at c1, cel_of c1, stm_at c1, ld_at c3, cel_of c3, stm_at c3, stm_upd, ld_same, cel_same, over, q1, q2, lx, ly, q3']
  exact kb (hk _ e0) (by simp [this])
 simp -implicitDefEqProofs [ld_at c1, cel_of c1, stm_at c1, ld_at c3, cel_of c3, stm_at c3, stm_upd, ld_same, cel_same, over, q1, q2, lx, ly, q3]
 refine evSame_ok a.evs b.evs (x.e.ext (@EvR.ext) e0) (y.e.ext (@EvR.ext) e0) h2 ?_
 by_cases q4 : a.evs = b.evs
 rotate_left
 ·have : a ≠ b := ne.2 fun hh => q4 hh.2.2.2
  simp -implicitDefEqProofs [q4]
  exact kb (hk _ e0) (by simp [this])
 simp -implicitDefEqProofs [q4]
 unfold qjRZ
 rw [seqM_eq]
 unfold qjQZ
 have hab : a = b ↔ a.vals = b.vals := ⟨fun e => by rw [e], fun e => (rep_eq a b).2 ⟨q1, q2, e, q4⟩⟩
 refine loop_on [2, 3, 4] (fun s h' => h' = g3 ∧ ∃ i : Nat, i ≤ a.vals.length ∧ s 5 = .int .i64 i ∧ a.vals.take i = b.vals.take i) (fun s _ => (a.vals.length - num (s 5)).toNat) ⟨rfl, 0, by omega, rfl, by simp⟩ ?_
 rintro s h3 hf ⟨rfl, i, hi, s5, hT⟩
 have s2 : s 2 = ptr v1 := by simpa using hf 2 (by simp)
 have s3 : s 3 = ptr v3 := by simpa using hf 3 (by simp)
 have s4 : s 4 = .bool false := by simpa using hf 4 (by simp)
 unfold qjPZ
 by_cases hlt : i < a.vals.length
 ·have hlt' : (i : Int) < a.vals.length := by omega
  have hly : i < b.vals.length := by omega
  have hw : IntKind.i64.wrap ((i : Int) + 1) = (i + 1 : Nat) := by rw [wrap64_id (by omega) (by omega)]; omega
  obtain ⟨p1, p2, i1, i2⟩ := pres_ld x.v (k := .i64) hlt
  obtain ⟨p1', p2', j1, j2⟩ := pres_ld y.v (k := .i64) hly
  simp -implicitDefEqProofs [s2, s5, ld_at c1, cel_of c1, stm_at c1, stm_upd, ld_same, cel_same, over, lx, hlt']
  unfold qjOZ
  simp -implicitDefEqProofs [s2, s3, s5, ld_at c1, cel_of c1, stm_at c1, ld_at c3, cel_of c3, stm_at c3, stm_upd, ld_same, cel_same, over, i1, j1, ldV_n (i2 _ e0), ldV_n (j2 _ e0)]
  simp -implicitDefEqProofs only [presC, presNe]
  by_cases he : a.vals[i] = b.vals[i]
  ·simp -implicitDefEqProofs [he]
   unfold qjNZ
   simp -implicitDefEqProofs [s2, s3, s4, s5, hw, -Int.natCast_add]
   exact ⟨⟨i + 1, by omega, rfl, take_eq_succ hT hlt hly he⟩, by omega⟩
  ·have : a ≠ b := fun e => he (by simp only [e])
   simp -implicitDefEqProofs [he]
   unfold qjMZ
   simp -implicitDefEqProofs [s4]
   exact kb (hk _ e0) (by simp [this])
 ·have : i = a.vals.length := by omega
  subst this
  have he : a.vals = b.vals := by
   rw [List.take_of_length_le (Nat.le_refl _), List.take_of_length_le (by omega)] at hT; exact hT
  simp -implicitDefEqProofs [s2, s5, ld_at c1, cel_of c1, stm_at c1, stm_upd, ld_same, cel_same, over, lx]
  exact kb (hk _ e0) (by simp [hab.2 he])
end Go.Proofs.YtcnphhhcknhhaaaGreat
namespace Go.Proofs.YtcnphhhcknhhaaaGreat
open Go Go.Den Go.MapKept
set_option linter.unusedSimpArgs false
set_option linter.unusedVariables false
set_option maxRecDepth 20000
theorem g4 : Gd [4] := ⟨3, [], rfl⟩
end Go.Proofs.YtcnphhhcknhhaaaGreat
namespace Go.Proofs.YtcnphhhcknhhaaaGreat
open Go Go.Den Go.MapKept
set_option linter.unusedSimpArgs false
set_option linter.unusedVariables false
set_option maxRecDepth 20000
theorem u32_id {a : Int} (h0 : 0 ≤ a) (h1 : a < 4294967296) : IntKind.u32.wrap a = a := by
 unfold IntKind.wrap
 simp -implicitDefEqProofs [IntKind.bits, IntKind.signed]
 omega
theorem pow8 {w : Nat} (hw : w < 8) : (2 : Int) ^ w ≤ 128 ∧ 0 < (2 : Int) ^ w := by
 have : w = 0 ∨ w = 1 ∨ w = 2 ∨ w = 3 ∨ w = 4 ∨ w = 5 ∨ w = 6 ∨ w = 7 := by omega
 rcases this with rfl | rfl | rfl | rfl | rfl | rfl | rfl | rfl <;> decide
theorem b_shl {w : Nat} (hw : w < 8) : binV .shl 2 true (.int .u32 1) (.int .i64 w) = some (.int .u32 (2 ^ w)) := by
 have h := pow8 hw
 have h0 : ¬ (w : Int) < 0 := by omega
 have hm : min w 32 = w := by omega
 simp -implicitDefEqProofs only [binV, intV, if_neg h0, Int.toNat_natCast, IntKind.bits, hm, Int.one_mul]
 rw [u32_id (by omega) (by omega)]
theorem b_or {m : Int} {w : Nat} (hw : w < 8) : binV .or 2 false (.int .u32 m) (.int .u32 (2 ^ w)) = some (.int .u32 (mor m w)) := by
 have := mor_rng m w
 simp -implicitDefEqProofs only [binV, intV, if_true, bitV, IntKind.bits]
 show some (Value.int .u32 (IntKind.u32.wrap ((BitVec.ofInt 32 m ||| BitVec.ofInt 32 (2 ^ w)).toNat : Int))) = _
 have e : ((BitVec.ofInt 32 m ||| BitVec.ofInt 32 (2 ^ w)).toNat : Int) = mor m w := by simp [mor]
 rw [e, u32_id this.1 this.2]
theorem b_clr {m : Int} {w : Nat} (hw : w < 8) : binV .andNot 2 false (.int .u32 m) (.int .u32 (2 ^ w)) = some (.int .u32 (mclr m w)) := by
 have := mclr_rng m w
 simp -implicitDefEqProofs only [binV, intV, if_true, bitV, IntKind.bits]
 show some (Value.int .u32 (IntKind.u32.wrap ((BitVec.ofInt 32 m &&& ~~~BitVec.ofInt 32 (2 ^ w)).toNat : Int))) = _
 have e : ((BitVec.ofInt 32 m &&& ~~~BitVec.ofInt 32 (2 ^ w)).toNat : Int) = mclr m w := by simp [mclr]
 rw [e, u32_id this.1 this.2]
theorem FeedX.stw {T : Tags} {h : Heap} {g : Tag} {p : Nat} {f : Feed} {kw vw k v : Value} {q : Nat → Nat} (x : FeedX T h g p f kw vw q) (w : Wf T h) (gg : Gd g) {ws : List (ByteArray × Int)} (y : WsR (fz T h) k v ws) {c : Array Value} (hc : c = (feedC k v fun j => ptr (q j)).toArray) :
  Only (fun t => t = g ++ [0]) T h T (upd h p (.cells c qadZ (0, 0))) ∧ FeedX T (upd h p (.cells c qadZ (0, 0))) g p { f with ws := ws } k v q := by
 have o : Only (fun t => t = g ++ [0]) T h T (upd h p (.cells c qadZ (0, 0))) := Only.upd w x.hp x.tp
 have e := o.ext (by simp)
 exact ⟨o, by rw [upd_same', hc], x.tp, y.1.ext (@StrR.ext) e, y.2.1.ext (@MaskR.ext) e, fun j hj => (x.xq j hj).kp o.k (off_eq (by simp)), y.2.2.1, y.2.2.2⟩
variable {K : Value → Heap → Prop}
theorem fwatch_ok (who : Int) (u : ByteArray) (hu : u.size ≤ maxLen) {T : Tags} {h : Heap} {g : Tag} {p : Nat} {f : Feed} (w : Wf T h) (gg : Gd g) (x : FeedR T h g p f) (fg : FdG f) (hl : f.ws.length < 999999)
  (hk : ∀ T' h', Only (pre g) T h T' h' → FeedR T' h' g p (f.watch who u) → K (.tuple #[]) h') : callM P qhuZ #[ptr p, .int .i64 who, .string u] h K := by
 apply qrvZ
 unfold qioZ
 refine client_ok who ?_
 unfold qlPZ
 cases hc : clientB who with
 | false =>
  simp -implicitDefEqProofs
  have e : f.watch who u = f := by simp [Feed.watch, hc]
  rw [e] at hk
  exact hk T h (Only.refl w) x
 | true =>
 have e : f.watch who u = { f with ws := putB f.ws u (mor (valL 0 f.ws u) who) } := by simp [Feed.watch, hc]
 rw [e] at hk
 obtain ⟨n, rfl⟩ : ∃ n : Nat, who = n := ⟨who.toNat, by simp [clientB] at hc; omega⟩
 have hn : n < 8 := by simp [clientB] at hc; omega
 simp -implicitDefEqProofs
 unfold qlOZ
 obtain ⟨kw, vw, q, x⟩ : ∃ kw vw q, FeedX T h g p f kw vw q := by
  obtain ⟨kw, vw, q, a1, a2, a3, a4, a5, a6, a7⟩ := x
  exact ⟨kw, vw, q, a1, a2, a3, a4, a5, a6, a7⟩
 have cp := x.hp
 have hws : WsR (fz T h) kw vw f.ws := ⟨x.x1, x.x2, x.s1, x.s2⟩
 have ldw : ∀ h', h' p = some (.cells (feedC kw vw fun j => ptr (q j)).toArray qadZ (0, 0)) → ldV (some (some 2)) (.pointer (some ⟨p, 0, none⟩)) h' = some (.agg #[kw, vw]) := fun h' c => by simp [ld_at c, feedC, feedG, List.range_succ]
 simp -implicitDefEqProofs [ldw _ cp]
 refine mget_ok f.ws fg.so u (fz_ext T h) hws (by omega) fun h1 e1 => ?_
 have o1 : Only non T h T h1 := Only.of_ext w e1
 have x1 := x.kp o1.k (Off.non _) (not_non _)
 unfold qlNZ
 simp -implicitDefEqProofs [ldw _ x1.hp, b_shl hn, b_or hn]
 refine mwith_ok f.ws fg.so u hu _ o1.wf ⟨x1.x1, x1.x2, x1.s1, x1.s2⟩ (by omega) fun h2 k v e2 y2 => ?_
 have o2 : Only non T h1 T h2 := Only.of_ext o1.wf e2
 have x2 := x1.kp o2.k (Off.non _) (not_non _)
 have cp2 := x2.hp
 have p1 := y2.1.one
 have p2 := y2.2.1.one
 obtain ⟨o3, x3⟩ := x2.stw o2.wf gg y2 (c := (feedC k v fun j => ptr (q j)).toArray) rfl
 simp -implicitDefEqProofs only [feedC, feedG, List.range_succ] at cp2 o3 x3
 simp at cp2 o3 x3
 simp -implicitDefEqProofs [ld_at cp2, cel_of cp2, stm_at cp2, stm_upd, ld_same, cel_same, over, p1.1, p1.2, p2.1, p2.2]
 exact hk T _ (((o1.trans o2).mono fun _ => non_up _).up o3 fun t => eq_pre) x3.r
theorem funwatch_ok (who : Int) (u : ByteArray) (hu : u.size ≤ maxLen) {T : Tags} {h : Heap} {g : Tag} {p : Nat} {f : Feed} (w : Wf T h) (gg : Gd g) (x : FeedR T h g p f) (fg : FdG f) (hl : f.ws.length < 999999)
  (hk : ∀ T' h', Only (pre g) T h T' h' → FeedR T' h' g p (f.unwatch who u) → K (.tuple #[]) h') : callM P qgjZ #[ptr p, .int .i64 who, .string u] h K := by
 apply qqkZ
 unfold qgZZ
 obtain ⟨kw, vw, q, x⟩ : ∃ kw vw q, FeedX T h g p f kw vw q := by
  obtain ⟨kw, vw, q, a1, a2, a3, a4, a5, a6, a7⟩ := x
  exact ⟨kw, vw, q, a1, a2, a3, a4, a5, a6, a7⟩
 have cp := x.hp
 have hws : WsR (fz T h) kw vw f.ws := ⟨x.x1, x.x2, x.s1, x.s2⟩
 have ldw : ∀ h', h' p = some (.cells (feedC kw vw fun j => ptr (q j)).toArray qadZ (0, 0)) → ldV (some (some 2)) (.pointer (some ⟨p, 0, none⟩)) h' = some (.agg #[kw, vw]) := fun h' c => by simp [ld_at c, feedC, feedG, List.range_succ]
 simp -implicitDefEqProofs [ldw _ cp]
 refine mget_ok f.ws fg.so u (fz_ext T h) hws (by omega) fun h1 e1 => ?_
 have o1 : Only non T h T h1 := Only.of_ext w e1
 have x1 := x.kp o1.k (Off.non _) (not_non _)
 have p1' : Only (pre g) T h T h1 := o1.mono fun _ => non_up _
 unfold qkhZ
 simp -implicitDefEqProofs
 refine client_ok who ?_
 unfold qkgZ
 cases hc : clientB who with
 | false =>
  have e : f.unwatch who u = f := by simp [Feed.unwatch, hc]
  rw [e] at hk
  simp -implicitDefEqProofs
  exact hk T h1 p1' x1.r
 | true =>
 obtain ⟨n, rfl⟩ : ∃ n : Nat, who = n := ⟨who.toNat, by simp [clientB] at hc; omega⟩
 have hn : n < 8 := by simp [clientB] at hc; omega
 by_cases hm : valL 0 f.ws u = 0
 ·have e : f.unwatch n u = f := by simp [Feed.unwatch, hm]
  rw [e] at hk
  simp -implicitDefEqProofs [hm]
  exact hk T h1 p1' x1.r
 simp -implicitDefEqProofs [hm]
 unfold qkfZ
 simp -implicitDefEqProofs [b_shl hn, b_clr hn]
 by_cases hz : mclr (valL 0 f.ws u) n = 0
 ·have e : f.unwatch n u = { f with ws := delB f.ws u } := by simp [Feed.unwatch, hc, hm, hz]
  rw [e] at hk
  simp -implicitDefEqProofs [hz]
  unfold qkdZ
  simp -implicitDefEqProofs [ldw _ x1.hp]
  refine mwithout_ok f.ws fg.so u o1.wf ⟨x1.x1, x1.x2, x1.s1, x1.s2⟩ (by omega) fun h2 k v e2 y2 => ?_
  have o2 : Only non T h1 T h2 := Only.of_ext o1.wf e2
  have x2 := x1.kp o2.k (Off.non _) (not_non _)
  have cp2 := x2.hp
  have p1 := y2.1.one
  have p2 := y2.2.1.one
  obtain ⟨o3, x3⟩ := x2.stw o2.wf gg y2 (c := (feedC k v fun j => ptr (q j)).toArray) rfl
  simp -implicitDefEqProofs only [feedC, feedG, List.range_succ] at cp2 o3 x3
  simp at cp2 o3 x3
  simp -implicitDefEqProofs [ld_at cp2, cel_of cp2, stm_at cp2, stm_upd, ld_same, cel_same, over, p1.1, p1.2, p2.1, p2.2]
  exact hk T _ (((o1.trans o2).mono fun _ => non_up _).up o3 fun t => eq_pre) x3.r
 ·have e : f.unwatch n u = { f with ws := putB f.ws u (mclr (valL 0 f.ws u) n) } := by simp [Feed.unwatch, hc, hm, hz]
  rw [e] at hk
  simp -implicitDefEqProofs [hz]
  unfold qkeZ
  simp -implicitDefEqProofs [ldw _ x1.hp]
  refine mwith_ok f.ws fg.so u hu _ o1.wf ⟨x1.x1, x1.x2, x1.s1, x1.s2⟩ (by omega) fun h2 k v e2 y2 => ?_
  have o2 : Only non T h1 T h2 := Only.of_ext o1.wf e2
  have x2 := x1.kp o2.k (Off.non _) (not_non _)
  have cp2 := x2.hp
  have p1 := y2.1.one
  have p2 := y2.2.1.one
  obtain ⟨o3, x3⟩ := x2.stw o2.wf gg y2 (c := (feedC k v fun j => ptr (q j)).toArray) rfl
  simp -implicitDefEqProofs only [feedC, feedG, List.range_succ] at cp2 o3 x3
  simp at cp2 o3 x3
  simp -implicitDefEqProofs [ld_at cp2, cel_of cp2, stm_at cp2, stm_upd, ld_same, cel_same, over, p1.1, p1.2, p2.1, p2.2]
  exact hk T _ (((o1.trans o2).mono fun _ => non_up _).up o3 fun t => eq_pre) x3.r
theorem hwatch_ok (who : Int) {s : Nat} (u : ByteArray) (hu : u.size ≤ maxLen) (on : Bool) {T : Tags} {h : Heap} {g : Tag} {p m : Nat} {H : Hall} (w : Wf T h) (gg : Gd g) (x : HallR T h g p H) (hs : s < H.n) (hh : HS m H) (hm : m < 100000)
  (hk : ∀ T' h', Only (pre g) T h T' h' → HallR T' h' g p (H.watch who s u on) → K (.tuple #[]) h') : callM P qhqZ #[ptr p, .int .i64 who, .int .i64 s, .string u, .bool on] h K := by
 apply qrqZ
 unfold qijZ
 obtain ⟨sv, av, Y, x⟩ := x
 refine hwr_ok who w gg x hs hh.n8.2 (by have := hh.ac; omega) fun T2 h2 av2 b o2 x2 rb => ?_
 obtain ⟨b', ob, rb', hb1, tb, ia, l1, l2, l3, l4, l5, l6⟩ := x2.lds (s := s) (k := .i64) hs
 have hbb : b' = b := by rw [rb] at rb'; cases rb'; rfl
 subst hbb
 have hf := (x2.sr s hs).2.2
 have fd := (hh.st s hs).fd
 have fg := fd.g hm
 have hl : ((H.wr who s).ss s).feed.ws.length < 999999 := by have := fd.len; show (H.ss s).feed.ws.length < _; omega
 have oh : Only (pre g) T h T2 h2 := o2.mono fun _ => U02.pre
 unfold qlwZ
 simp -implicitDefEqProofs [l5]
 cases on with
 | true =>
  simp -implicitDefEqProofs
  refine fwatch_ok who u hu o2.wf (gg.app [3, s]) hf fg hl fun T4 h4 o4 r4 => ?_
  exact hk T4 h4 (oh.up o4 fun t => pre_trans) ⟨sv, av2, _, x2.fed hs o4 gg r4⟩
 | false =>
  simp -implicitDefEqProofs
  refine funwatch_ok who u hu o2.wf (gg.app [3, s]) hf fg hl fun T4 h4 o4 r4 => ?_
  exact hk T4 h4 (oh.up o4 fun t => pre_trans) ⟨sv, av2, _, x2.fed hs o4 gg r4⟩
end Go.Proofs.YtcnphhhcknhhaaaGreat
namespace Go.Proofs.YtcnphhhcknhhaaaGreat
open Go Go.Den Go.MapKept
set_option linter.unusedSimpArgs false
set_option linter.unusedVariables false
set_option maxRecDepth 20000
def evX (l : List Evt) : List (Array Value) := l.map fun e => #[.agg (evC e).toArray]
theorem zcEv : zc P qrZ = some #[.string ⟨#[]⟩, .int .i64 0, .int .i64 0, .int .i64 0, .int .i64 0, .int .i64 0, .int .i64 0, .int .u64 0] := by kernel_rfl
theorem rall_it (r : Ring) {hA : Heap} {b p : Nat} {lv : Value} (cb : hA b = some (.cells #[ptr p] qNZ (0, 0))) (cp : hA p = some (.cells (ringC r lv).toArray qwZ (0, 0))) (x : Sl 8 EvR hA lv r.l) (hl : r.l.length < 1000000) :
    It P qbWZ #[ptr b] (evX r.l) hA := by
  intro yv I S h K hx hs h0 hround hK1 hK2
  apply qmqZ
  unfold qcoZ
  have cb0 := hx _ _ h0 _ _ cb
  have cp0 := hx _ _ h0 _ _ cp
  simp -implicitDefEqProofs only [ringC] at cp0
  have hlen := x.len
  simp -implicitDefEqProofs [ld_at cb0, cel_of cb0, stm_at cb0, ld_at cp0, cel_of cp0, stm_at cp0, stm_upd, ld_same, cel_same, over, hlen]
  refine loop_on [0, 8, 9] (fun s h' => ∃ k : Nat, k ≤ r.l.length ∧ s 10 = .int .i64 k ∧ I k h') (fun s _ => (r.l.length - num (s 10)).toNat) ⟨0, by omega, rfl, h0⟩ ?_
  rintro s h1 hf ⟨k, hk, s10, hI⟩
  have s0 : s 0 = yv := by simpa using hf 0 (by simp)
  have s8 : s 8 = lv := by simpa using hf 8 (by simp)
  have s9 : s 9 = .int .i64 r.l.length := by simpa using hf 9 (by simp)
  unfold qeXZ
  simp -implicitDefEqProofs only [s9, s10, bin_lss, ov_s, cd_b]
  refine ⟨fun hc => ?_, fun hc => ?_⟩
  rotate_left
  · have : k = r.l.length := by have : ¬ ((k : Int) < r.l.length) := by simpa using hc
                                omega
    subst this
    simp -implicitDefEqProofs
    exact hK1 _ _ (by simpa [evX] using hI)
  have hlt : k < r.l.length := by have : ((k : Int) < r.l.length) := by simpa using hc
                                  omega
  have hw : IntKind.i64.wrap ((k : Int) + 1) = k + 1 := wrap64_id (by omega) (by omega)
  have eA := hx _ _ hI
  obtain ⟨eb, eo, i1, i2⟩ := ev_ld x (k := .i64) hlt
  unfold qeWZ
  simp -implicitDefEqProofs only [s8, s10, i1, ov_s, ldV_n (i2 _ eA), zcEv]
  refine nw_st rfl (by simp [evC, presC]) (by simp [evC, presC]) fun vb h3 n3 e3 c3 => ?_
  have c3 : h3 vb = some (.cells (evC r.l[k]).toArray qrZ (0, 0)) := by simpa using c3
  have hld : ldV (some (some 8)) (ptr vb) h3 = some (.agg (evC r.l[k]).toArray) := by simp [ld_at c3, evC, presC]
  simp -implicitDefEqProofs only [hld, ov_s, s0]
  have hj : k < (evX r.l).length := by simpa [evX] using hlt
  have hr := hround k hj h3
  have hx' : (evX r.l)[k] = #[.agg (evC r.l[k]).toArray] := by simp [evX]
  rw [hx'] at hr
  refine hr _ (hs _ _ _ hI e3) (fun h4 hI4 => ?_) (fun h4 hS => ?_)
  · unfold qbGZ qeVZ
    simp -implicitDefEqProofs [s10, hw, s0, s8, s9]
    exact ⟨⟨k + 1, by omega, by simp, hI4⟩, by omega⟩
  · unfold qbGZ
    simp -implicitDefEqProofs
    exact hK2 _ _ hS
def DrJ (hB : Heap) (v1 : Nat) (l : List Evt) (q b' i : Nat) (h' : Heap) : Prop :=
 ∃ ov, h' v1 = some (.cells #[ov] qnZ (0, 0)) ∧ Row 8 qrZ h' ov i ((l.take i).flatMap evC) ∧ Ext (wo hB [v1]) h' ∧ ∀ r, rowOf ov = some r → r ≠ v1 ∧ r ≠ q ∧ r ≠ b' ∧ hB r = none
def DrC (hB : Heap) (v1 : Nat) (l : List Evt) (q b' i : Nat) (s2 : Env) (h' : Heap) : Prop := DrJ hB v1 l q b' i h' ∧ s2 4 = ptr v1 ∧ ∃ (hi : i < l.length) (xb : Nat), s2 5 = ptr xb ∧ xb ≠ q ∧ xb ≠ v1 ∧ h' xb = some (.cells (evC l[i]).toArray qrZ (0, 0))
theorem DrJ.keep {hB : Heap} {v1 : Nat} {l : List Evt} {q b' i : Nat} {h' h'' : Heap} (J : DrJ hB v1 l q b' i h') (hl' : hB q = none) (h3 : hB v1 ≠ none) (k : Keep (some q) h' h'') : DrJ hB v1 l q b' i h'' := by
 obtain ⟨ov, c, r, e, n⟩ := J
 refine ⟨ov, k _ _ c (fun hh => by cases hh; exact h3 hl'), r.of_at fun g hg => ?_, wo_keep e hl' k, n⟩
 obtain ⟨o, ho⟩ := r.lt g hg
 rw [ho]; exact k _ _ ho (fun hh => (n g hg).2.1 (by cases hh; rfl))
theorem zcSlEv : zc P qnZ = some #[.slice none 0 0] := by kernel_rfl
variable {K : Value → Heap → Prop}
set_option maxHeartbeats 2000000 in
theorem rdrain_ok {T : Tags} {h : Heap} {g : Tag} {p : Nat} {r : Ring} (w : Wf T h) (gg : Gd g) (x : RingR T h g p r) (hl : r.l.length < 1000000)
  (hk : ∀ T' h' v, Only (pre g) T h T' h' → RingR T' h' g p ⟨r.room, [], false⟩ → Sl 8 EvR (fz T' h') v r.l → K (.tuple #[v, .bool r.lost]) h') : callM P qxZ #[ptr p] h K := by
 apply qncZ
 unfold qcEZ
 rw [zcSlEv]
 refine nw_intro fun v1 h1 n1 e1 c1 => ?_
 obtain ⟨lv, cp, tp, rl⟩ := x
 have cp1 := e1 _ _ cp
 have xs : Sl 8 EvR h lv r.l := Row.slE (enc := evC) (R := EvR) (fun e => by simp [evC, presC]) (fun _ => rfl) rl.1
 have n1p : p ≠ v1 := fun hh => by subst hh; rw [cp] at n1; cases n1
 rw [seqM_eq]
 unfold qffZ
 apply qnyZ
 unfold qdCZ
 simp -implicitDefEqProofs only [nwM_s, Value.cells]
 intro bA nA
 have eA : Ext h1 (upd h1 bA _) := Ext.upd nA (.cells #[ptr p] qNZ (0, 0))
 have cA := upd_same' h1 bA (.cells #[ptr p] qNZ (0, 0))
 generalize upd h1 bA _ = hB at *
 have nA1 : v1 ≠ bA := ne_fresh c1 nA
 have c1 := eA _ _ c1
 have cp2 := eA _ _ cp1
 have e0B := e1.trans eA
 have h1B : hB v1 ≠ none := by rw [c1]; simp
 have F1 : Ext h (wo hB [v1]) := wo_ext e0B (by simpa using n1)
 have hlx : (evX r.l).length = r.l.length := by simp [evX]
 simp -implicitDefEqProofs only [ov_s]
 unfold qfeZ
 refine rf_go good mixed rfl (by kernel_rfl) (rall_it r (hA := wo hB [v1]) (b := bA) (p := p) (lv := lv) (by rw [wo_out (by simpa using Ne.symm nA1)]; exact cA) (by rw [wo_out (by simpa using n1p)]; exact cp2) (xs.ext (@EvR.ext) F1) hl)
  (fun q b' i h' => DrJ hB v1 r.l q b' i h') (fun _ _ _ _ => False) (fun q b' i s2 h' => DrC hB v1 r.l q b' i s2 h') ?_ ?_ ?_ (fun _ _ _ _ _ _ _ h _ => h) ?_ ?_ ?_ ?_ ?_ (fun _ _ _ _ _ _ _ h => h.elim) (fun _ _ _ _ _ _ _ _ h => h.elim)
 ·intro q b' hq hb'
  exact ⟨_, c1, by simpa using (Rf.nil (sz := 8) (e := qrZ) (Ext.refl hB)).row, fun k o hk => (wo_get hk).2, fun k hk => by simp [rowOf] at hk⟩
 ·intro q b' i h' J; obtain ⟨ov, _, _, e, _⟩ := J; exact e
 ·intro q b' hq hb' i h' h'' J k
  exact J.keep hq h1B k
 ·rintro q b' i s2 ha hb hq hb' ⟨J, s4, hi, xb, s5, nx, nx1, cx⟩ k
  exact ⟨J.keep hq h1B k, s4, hi, xb, s5, nx, nx1, k _ _ cx (fun hh => nx (by cases hh; rfl))⟩
 ·intro i hi; simp [evX]
 ·rintro i hi q b' h2 hq hb' ⟨ol, hol⟩ ⟨ob, hob⟩ J
  rw [qkMZ]
  unfold qeTZ
  rw [zcEv]
  have hib : i < r.l.length := by omega
  have hxi : (evX r.l)[i] = #[.agg (evC r.l[i]).toArray] := by simp [evX]
  rw [hxi]
  simp -implicitDefEqProofs
  refine nw_st rfl (by simp [evC, presC]) (by simp [evC, presC]) fun xb h4 n4 e4 c4 => ?_
  have nx : xb ≠ q := fun hh => by subst hh; rw [hol] at n4; cases n4
  obtain ⟨ov, cv, rr, e, nr⟩ := J
  refine ⟨⟨⟨ov, e4 _ _ cv, rr.ext e4, e.trans e4, nr⟩, by simp, hib, xb, by simp, nx, fun hh => (by subst hh; rw [cv] at n4; cases n4), by simpa using c4⟩, by rw [hol, e4 _ _ hol], by rw [hob, e4 _ _ hob]⟩
 ·rintro i hi q b' s2 h3 hq hb' ⟨ol, hol⟩ ⟨ob, hob⟩ ⟨⟨ov, cv, rr, e, nr⟩, s4, hib, xb, s5, nx, nx1, cx⟩
  rw [qkNZ]
  unfold qeUZ
  have hld : ldV (some (some 8)) (ptr xb) h3 = some (.agg (evC r.l[i]).toArray) := by simp [ld_at cx, evC, presC]
  simp -implicitDefEqProofs [s4, s5, ld_at cv, cel_of cv, stm_at cv, stm_upd, ld_same, cel_same, over, hld]
  refine app_one (x := .agg (evC r.l[i]).toArray) bsEv unSlEv apEv (by omega) (by simp [evC, presC]) (by simp [evC, presC]) rr (by unfold maxLen; omega) (by omega) (by omega) fun a ov' h4 r4 k4 ha => ?_
  have hl3 : q ≠ v1 := fun hh => by subst hh; rw [hq] at c1; cases c1
  have hb3 : b' ≠ v1 := fun hh => by subst hh; rw [hb'] at c1; cases c1
  have cv4 : h4 v1 = some (.cells #[ov] qnZ (0, 0)) := k4 _ _ cv (fun hh => (nr v1 hh.symm).1 rfl)
  have hol4 : h4 q = some ol := k4 _ _ hol (fun hh => (nr q hh.symm).2.1 rfl)
  have hob4 : h4 b' = some ob := k4 _ _ hob (fun hh => (nr b' hh.symm).2.2.1 rfl)
  have nr' : ∀ k, rowOf ov' = some k → k ≠ v1 ∧ k ≠ q ∧ k ≠ b' ∧ hB k = none := fun k hk => by
   rcases ha with ha | ⟨j, ha, hj⟩
   ·exact nr k (by rw [← ha]; exact hk)
   ·rw [ha] at hk; cases hk
    refine ⟨fun hh => ?_, fun hh => ?_, fun hh => ?_, ?_⟩
    ·subst hh; rw [cv] at hj; cases hj
    ·subst hh; rw [hol] at hj; cases hj
    ·subst hh; rw [hob] at hj; cases hj
    ·by_cases hg3 : k = v1
     ·subst hg3; rw [cv] at hj; cases hj
     ·cases hh : hB k with
      | none => rfl
      | some o =>
       have := e k o (by rw [wo_out (by simpa using hg3)]; exact hh)
       rw [this] at hj; cases hj
  have okv : ov'.cells = #[ov'] := r4.one.2
  simp -implicitDefEqProofs [ld_at cv4, cel_of cv4, stm_at cv4, stm_upd, ld_same, cel_same, over, okv, r4.one.1]
  refine ⟨by rw [upd_ne hl3, hol4, hol], by rw [upd_ne hb3, hob4, hob], ov', upd_same' _ _ _, ?_, wo_upd ?_ (by simp), nr'⟩
  ·have : r.l.take (i + 1) = r.l.take i ++ [r.l[i]] := by rw [List.take_succ_eq_append_getElem hib]
   rw [this, List.flatMap_append]
   exact (by simpa using r4 : Row 8 qrZ h4 ov' (i + 1) _).of_at fun k hk => upd_ne (nr' k hk).1
  ·intro k o hk
   have hkB := wo_get hk
   have := e k o hk
   exact k4 k o this fun hh => by rw [(nr k hh.symm).2.2.2] at hkB; cases hkB.2
 ·intro q b' h' hq hne hb' hd J
  rw [hlx] at J
  obtain ⟨ov, cv, rr, e, nr⟩ := J
  rw [List.take_of_length_le (Nat.le_refl _)] at rr
  have cp3 := e _ _ (show wo hB [v1] p = _ by rw [wo_out (by simpa using n1p)]; exact cp2)
  have nb1 : v1 ≠ b' := fun hh => by subst hh; rw [hb'] at c1; cases c1
  have nbp : p ≠ b' := fun hh => by subst hh; rw [hb'] at cp2; cases cp2
  simp -implicitDefEqProofs only [ringC] at cp3
  simp -implicitDefEqProofs only [blkM_n, thenM_n]
  unfold qfgZ
  simp -implicitDefEqProofs [ld_at cp3, cel_of cp3, stm_at cp3, ld_at cv, cel_of cv, stm_at cv, stm_skip n1p, stm_skip (Ne.symm n1p), ld_skip n1p, ld_skip (Ne.symm n1p), cel_skip n1p, cel_skip (Ne.symm n1p), stm_upd, ld_same, cel_same, over, hd, ld_skip nb1, cel_skip nb1, upd_ne (Ne.symm nbp)]
  obtain ⟨X, hX⟩ : ∃ X, X = Obj.cells #[Value.int .i64 r.room, .slice none 0 0, .bool false] qwZ (0, 0) := ⟨_, rfl⟩
  rw [← hX]
  have ec : upd (upd h' p X) b' (.deferred none) = upd (upd h' b' (.deferred none)) p X := by
   funext k
   by_cases h1 : k = b'
   ·subst h1; rw [upd_same', upd_ne (Ne.symm nbp), upd_same']
   ·rw [upd_ne h1]
    by_cases h2 : k = p
    ·subst h2; rw [upd_same', upd_same']
    ·rw [upd_ne h2, upd_ne h2, upd_ne h1]
  rw [ec]
  have E1 : Ext h (upd h' b' (.deferred none)) := ext_upd (fresh_of e0B hb') (ext_wo e0B (by simpa using n1) e)
  have o1 : Only non T h T (upd h' b' (.deferred none)) := Only.of_ext w E1
  have o2 : Only (fun t => t = g ++ [0]) T (upd h' b' (.deferred none)) T (upd (upd h' b' (.deferred none)) p X) := Only.upd o1.wf (E1 _ _ cp) tp
  have nrh : ∀ k, rowOf ov = some k → h k = none := fun k hk => fresh_of e0B (nr k hk).2.2.2
  refine hk T _ ov ((o1.mono fun _ => non_up _).up o2 fun t => eq_pre) ⟨.slice none 0 0, by rw [upd_same', hX]; rfl, tp, Rw.nil _ _ _ _ _⟩ ?_
  have r2 : Row 8 qrZ (upd (upd h' b' (.deferred none)) p X) ov r.l.length (r.l.flatMap evC) := rr.of_at fun j hj => by
   have hjp : j ≠ p := fun hh => by have := nrh j hj; rw [hh, cp] at this; cases this
   rw [upd_ne hjp, upd_ne (nr j hj).2.2.1]
  exact Row.slE (enc := evC) (R := EvR) (fun e => by simp [evC, presC]) (fun _ => rfl) (r2.fz w nrh)
end Go.Proofs.YtcnphhhcknhhaaaGreat
namespace Go.Proofs.YtcnphhhcknhhaaaGreat
open Go Go.Den Go.MapKept
set_option linter.unusedSimpArgs false
set_option linter.unusedVariables false
set_option maxRecDepth 20000
variable {K : Value → Heap → Prop}
theorem fdrain_ok (who : Int) {T : Tags} {h : Heap} {g : Tag} {p : Nat} {f : Feed} (w : Wf T h) (gg : Gd g) (x : FeedR T h g p f) (hl : ∀ j, j < 8 → (f.qs j).l.length < 1000000)
  (hk : ∀ T' h' v, Only (pre g) T h T' h' → FeedR T' h' g p (f.drain who) → Sl 8 EvR (fz T' h') v (f.told who) → K (.tuple #[v, .bool (f.lost who)]) h') : callM P qhvZ #[ptr p, .int .i64 who] h K := by
 apply qrwZ
 unfold qipZ
 refine client_ok who ?_
 unfold qlRZ
 cases hc : clientB who with
 | false =>
  simp -implicitDefEqProofs
  have e1 : f.drain who = f := by simp [Feed.drain, hc]
  have e2 : f.told who = [] := by simp [Feed.told, hc]
  have e3 : f.lost who = false := by simp [Feed.lost, hc]
  rw [e1, e2, e3] at hk
  exact hk T h _ (Only.refl w) x (.inl ⟨rfl, _, _, rfl⟩)
 | true =>
 obtain ⟨n, rfl⟩ : ∃ n : Nat, who = n := ⟨who.toNat, by simp [clientB] at hc; omega⟩
 have hn : n < 8 := by simp [clientB] at hc; omega
 have e1 : f.drain n = { f with qs := qset f.qs n ⟨(f.qs n).room, [], false⟩ } := by simp [Feed.drain, hc]
 have e2 : f.told n = (f.qs n).l := by simp [Feed.told, hc]
 have e3 : f.lost n = (f.qs n).lost := by simp [Feed.lost, hc]
 rw [e1, e2, e3] at hk
 obtain ⟨kw, vw, q, cp, tp, a3, a4, a5, a6, a7⟩ := x
 simp -implicitDefEqProofs
 unfold qlQZ
 have hcel : cel h p (2 + n) = some (ptr (q n)) := by
  rw [cel_of cp]
  have : n = 0 ∨ n = 1 ∨ n = 2 ∨ n = 3 ∨ n = 4 ∨ n = 5 ∨ n = 6 ∨ n = 7 := by omega
  rcases this with rfl | rfl | rfl | rfl | rfl | rfl | rfl | rfl <;> simp [feedC, feedG, List.range_succ]
 simp -implicitDefEqProofs [ia_arr hn, hcel]
 refine rdrain_ok w (gg.app [1, n]) (a5 n hn) (hl n hn) fun T2 h2 v o2 r2 s2 => ?_
 simp -implicitDefEqProofs
 have b := o2.k.at cp tp (not_pre (by simp))
 have nn : ¬ pre (g ++ [1, n]) [] := (gg.app _).nil
 refine hk T2 h2 v (o2.mono fun t => pre_trans) ⟨kw, vw, q, b.1, b.2, a3.ext (@StrR.ext) (o2.ext nn), a4.ext (@MaskR.ext) (o2.ext nn), fun j hj => ?_, a6, a7⟩ s2
 show RingR T2 h2 _ _ (qset f.qs n _ j)
 by_cases hjn : j = n
 ·subst hjn; simp [qset]; exact r2
 ·simp -implicitDefEqProofs [qset, hjn]; exact (a5 j hj).kp o2.k (off_pre (by simp; omega) (by simp; omega))
theorem hdrain_ok (who : Int) {s : Nat} {T : Tags} {h : Heap} {g : Tag} {p m : Nat} {H : Hall} (w : Wf T h) (gg : Gd g) (x : HallR T h g p H) (hs : s < H.n) (hh : HS m H) (hm : m < 100000) (hl : ∀ j, j < 8 → ((H.ss s).feed.qs j).l.length < 1000000)
  (hk : ∀ T' h' v, Only (pre g) T h T' h' → HallR T' h' g p (H.drain who s) → Sl 8 EvR (fz T' h') v ((H.ss s).feed.told who) → K (.tuple #[v, .bool ((H.ss s).feed.lost who)]) h') : callM P qhrZ #[ptr p, .int .i64 who, .int .i64 s] h K := by
 apply qrrZ
 unfold qikZ
 obtain ⟨sv, av, Y, x⟩ := x
 refine hwr_ok who w gg x hs hh.n8.2 (by have := hh.ac; omega) fun T2 h2 av2 b o2 x2 rb => ?_
 obtain ⟨b', ob, rb', hb1, tb, ia, l1, l2, l3, l4, l5, l6⟩ := x2.lds (s := s) (k := .i64) hs
 have hbb : b' = b := by rw [rb] at rb'; cases rb'; rfl
 subst hbb
 have hf := (x2.sr s hs).2.2
 have oh : Only (pre g) T h T2 h2 := o2.mono fun _ => U02.pre
 unfold qlxZ
 simp -implicitDefEqProofs [l5]
 refine fdrain_ok who o2.wf (gg.app [3, s]) hf hl fun T4 h4 v o4 r4 s4 => ?_
 simp -implicitDefEqProofs
 exact hk T4 h4 v (oh.up o4 fun t => pre_trans) ⟨sv, av2, _, x2.fed hs o4 gg r4⟩ s4
end Go.Proofs.YtcnphhhcknhhaaaGreat
namespace Go.Den
open Go Go.MapKept
set_option linter.unusedVariables false
set_option linter.unusedSimpArgs false
structure MiR (h : Heap) (r : Nat) (m : Mine) : Prop where
 e : ∃ es ck, h r = some (.map es ck) ∧ Stamped es ck ∧ (∀ x ∈ es.toList, IsKey .string x.key ∧ x.val = .bool true) ∧ (es.toList.map (·.key)).Perm (m.map Value.string)
def miF (m : Mine) : Value → Option Value := fun k => match k with
 | .string u => if mhas m u = true then some (.bool true) else none
 | _ => none
theorem MiR.map {h : Heap} {r : Nat} {m : Mine} (x : MiR h r m) : MapR .string h r (miF m) := by
 obtain ⟨es, ck, h1, h2, h3, h4⟩ := x.e
 refine ⟨es, ck, h1, h2, fun y hy => (h3 y hy).1, fun k v hk => ?_⟩
 cases k with
 | string u =>
  have hm : (u ∈ m) ↔ ∃ e ∈ es.toList, e.key = .string u := by
   have : (Value.string u ∈ es.toList.map (·.key)) ↔ (Value.string u ∈ m.map Value.string) := h4.mem_iff
   simp only [List.mem_map] at this
   constructor
   ·intro hu; exact this.2 ⟨u, hu, rfl⟩
   ·intro hu; obtain ⟨a, ha, hb⟩ := this.1 hu; cases hb; exact ha
  simp only [miF]
  by_cases hu : mhas m u = true
  ·rw [if_pos hu]
   constructor
   ·intro he; cases he
    obtain ⟨e, he1, he2⟩ := hm.1 (mhas_iff.1 hu)
    exact ⟨e, he1, he2, (h3 e he1).2⟩
   ·rintro ⟨e, he1, he2, he3⟩
    rw [(h3 e he1).2] at he3; rw [he3]
  ·rw [if_neg hu]
   constructor
   ·intro he; cases he
   ·rintro ⟨e, he1, he2, he3⟩; exact absurd (mhas_iff.2 (hm.2 ⟨e, he1, he2⟩)) hu
 | _ => simp [IsKey] at hk
theorem MiR.nodup {h : Heap} {r : Nat} {m : Mine} (x : MiR h r m) : m.Nodup := by
 obtain ⟨es, ck, h1, h2, h3, h4⟩ := x.e
 have := h4.nodup_iff.1 h2.2.2
 exact List.Pairwise.of_map (S := fun a b => a ≠ b) Value.string (fun a b hab he => hab (by rw [he])) this
theorem filter_ne_perm {m : Mine} {u : ByteArray} (nd : m.Nodup) (h : u ∈ m) : (u :: m.filter fun k => !decide (k = u)).Perm m := by
 induction m with
 | nil => simp at h
 | cons a m ih =>
  obtain ⟨n1, n2⟩ := List.nodup_cons.1 nd
  by_cases ha : a = u
  ·subst ha
   have : (m.filter fun k => !decide (k = a)) = m := List.filter_eq_self.2 fun k hk => by
    have : k ≠ a := fun e => n1 (e ▸ hk)
    simp [this]
   simp [List.filter_cons, this]
  ·have hm : u ∈ m := by simpa [Ne.symm ha] using h
   have e : (List.filter (fun k => !decide (k = u)) (a :: m)) = a :: m.filter fun k => !decide (k = u) := by simp [List.filter_cons, ha]
   rw [e]
   exact (List.Perm.swap a u _).trans ((ih n2 hm).cons a)
theorem miset_on {m : Mine} {u : ByteArray} (nd : m.Nodup) (h : u ∈ m) : (miset m u true).Perm m := by
 unfold miset
 simp only [if_true]
 exact List.perm_append_singleton u _ |>.trans (filter_ne_perm nd h)
theorem filter_ne_self {m : Mine} {u : ByteArray} (h : u ∉ m) : (m.filter fun k => !decide (k = u)) = m := List.filter_eq_self.2 fun k hk => by
 have : k ≠ u := fun e => h (e ▸ hk)
 simp [this]
theorem MiR.mem {es : Array MapEntry} {m : Mine} (h4 : (es.toList.map (·.key)).Perm (m.map Value.string)) (u : ByteArray) : u ∈ m ↔ ∃ e ∈ es.toList, e.key = .string u := by
 have : (Value.string u ∈ es.toList.map (·.key)) ↔ (Value.string u ∈ m.map Value.string) := h4.mem_iff
 simp only [List.mem_map] at this
 constructor
 ·intro hu; exact this.2 ⟨u, hu, rfl⟩
 ·intro hu; obtain ⟨a, ha, hb⟩ := this.1 hu; cases hb; exact ha
variable {K : Value → Heap → Prop}
theorem mi_len {P : Program} {t ty kt et : TypeId} {r : Nat} {m : Mine} {h : Heap} (ht : P.underlying t = some (.map kt et)) (x : MiR h r m) (hK : K (.int .i64 m.length) h) :
  vvM P (Builtin.len_ #[t] ty #[.map (some r)]) h K := by
 intro w hw
 obtain ⟨es, ck, hb, h2, h3, h4⟩ := x.e
 rw [← hw] at hb
 have hb' : w.heap[r]? = some (.map es ck) := hb
 have hl : es.size = m.length := by have := h4.length_eq; simpa using this
 refine ⟨.int .i64 m.length, w, ?_, Okw.refl w, by rw [hw]; exact hK⟩
 simp [Builtin.len_, run_underlying ht, Go.MapKept.run_getObj_map hb', Result.andThen, goInt, hl]
theorem mi_set {P : Program} {t : TypeId} {kt : TypeId} {z : Value} {r : Nat} {m : Mine} {u : ByteArray} {h : Heap} {K : Heap → Prop}
  (hc : mpC P t = some (kt, .string, z)) (x : MiR h r m) (hK : ∀ h', (∀ b, b ≠ r → h' b = h b) → MiR h' r (miset m u true) → K h') : uM P (Instr.mapUpdate t (.map (some r)) (.string u) (.bool true)) h K := by
 intro w hw
 have nd := x.nodup
 obtain ⟨et, i, hu, hd, hi, hz⟩ := mpC_spec hc
 obtain ⟨es, ck, hb, hs, hks, hp⟩ := x.e
 rw [← hw] at hb
 have hb' : w.heap[r]? = some (.map es ck) := hb
 have hk : IsKey .string (.string u) := trivial
 have hks' : ∀ x ∈ es.toList, IsKey .string x.key := fun x hx => (hks x hx).1
 rcases findNow_spec hk es.toList 0 hks' with ⟨h1, h2⟩ | ⟨j, e, h1, h2, h3⟩
 ·have hn : u ∉ m := fun hu => by obtain ⟨e, he1, he2⟩ := (MiR.mem hp u).1 hu; exact h2 e he1 he2
  refine ⟨{ w with heap := w.heap.setIfInBounds r (.map (es.push { key := .string u, val := .bool true, born := ck }) (ck + 1)) }, ?_, ⟨rfl, rfl, rfl, by simp⟩, hK _ (fun b hne => ?_) ⟨_, _, (heap_set hb').1, stamped_push hs h2, ?_, ?_⟩⟩
  ·simp [Instr.mapUpdate, run_underlying hu, Go.MapKept.run_getObj_map hb', run_checkKey hd hk, run_findKey hd h1, Go.MapKept.run_setObj_map _ hb', Result.andThen]
  ·rw [← hw]; exact (heap_set hb').2 b hne
  ·intro x hx
   simp only [Array.toList_push, List.mem_append, List.mem_singleton] at hx
   rcases hx with hx | rfl
   ·exact hks x hx
   ·exact ⟨hk, rfl⟩
  ·unfold miset
   rw [filter_ne_self hn]
   simp only [Array.toList_push, List.map_append, List.map_cons, List.map_nil, if_true]
   exact hp.append_right _
 ·have hj : es[j]? = some e := by simpa using h2
  have hum : u ∈ m := (MiR.mem hp u).2 ⟨e, List.mem_of_getElem? h2, h3⟩
  have hkey : ∀ e', es[j]? = some e' → ({ e' with key := .string u, val := .bool true } : MapEntry).key = e'.key := fun e' he' => by rw [hj] at he'; cases he'; exact h3.symm
  refine ⟨{ w with heap := w.heap.setIfInBounds r (.map (es.modify j fun e => { e with key := .string u, val := .bool true }) ck) }, ?_, ⟨rfl, rfl, rfl, by simp⟩, hK _ (fun b hne => ?_)
   ⟨_, _, (heap_set hb').1, stamped_modify hs _ _ (fun _ _ => rfl) (fun e' _ he' => hkey e' he'), fun y hy => ⟨isKey_modify hks' _ _ hkey y hy, ?_⟩, ?_⟩⟩
  ·simp [Instr.mapUpdate, run_underlying hu, Go.MapKept.run_getObj_map hb', run_checkKey hd hk, run_findKey hd h1, hj, h3, run_keyThatStays hk, Go.MapKept.run_setObj_map _ hb', Result.andThen]
  ·rw [← hw]; exact (heap_set hb').2 b hne
  ·obtain ⟨i', hi'⟩ := List.mem_iff_getElem?.1 hy
   rw [Array.getElem?_toList, Array.getElem?_modify] at hi'
   split at hi'
   ·cases hx : es[i']? with
    | none => rw [hx] at hi'; cases hi'
    | some a => rw [hx] at hi'; simp at hi'; rw [← hi']
   ·exact (hks y (List.mem_of_getElem? (by simpa using hi'))).2
  ·rw [modify_keys _ _ hkey]
   exact hp.trans ((miset_on nd hum).symm.map _)
theorem mi_del {P : Program} {t : TypeId} {kt ty : TypeId} {z : Value} {r : Nat} {m : Mine} {u : ByteArray} {h : Heap}
  (hc : mpC P t = some (kt, .string, z)) (x : MiR h r m) (hK : ∀ h', (∀ b, b ≠ r → h' b = h b) → MiR h' r (miset m u false) → K (.tuple #[]) h') : vvM P (Builtin.delete_ #[t, kt] ty #[.map (some r), .string u]) h K := by
 intro w hw
 have nd := x.nodup
 obtain ⟨et, i, hu, hd, hi, hz⟩ := mpC_spec hc
 obtain ⟨es, ck, hb, hs, hks, hp⟩ := x.e
 rw [← hw] at hb
 have hb' : w.heap[r]? = some (.map es ck) := hb
 have hk : IsKey .string (.string u) := trivial
 have hks' : ∀ x ∈ es.toList, IsKey .string x.key := fun x hx => (hks x hx).1
 rcases findNow_spec hk es.toList 0 hks' with ⟨h1, h2⟩ | ⟨j, e, h1, h2, h3⟩
 ·have hn : u ∉ m := fun hu => by obtain ⟨e, he1, he2⟩ := (MiR.mem hp u).1 hu; exact h2 e he1 he2
  refine ⟨_, { w with heap := w.heap.setIfInBounds r (.map es ck) }, ?_, ⟨rfl, rfl, rfl, by simp⟩, hK _ (fun b hne => ?_) ⟨_, _, (heap_set hb').1, hs, hks, ?_⟩⟩
  ·simp [Builtin.delete_, run_underlying hu, Go.MapKept.run_getObj_map hb', run_checkKey hd hk, run_findKey hd h1, Go.MapKept.run_setObj_map _ hb', Result.andThen]
  ·rw [← hw]; exact (heap_set hb').2 b hne
  ·unfold miset
   rw [filter_ne_self hn]
   simpa using hp
 ·have hj : es[j]? = some e := by simpa using h2
  have hum : u ∈ m := (MiR.mem hp u).2 ⟨e, List.mem_of_getElem? h2, h3⟩
  have hjl : j < es.size := by
   rcases Nat.lt_or_ge j es.size with h | h
   ·exact h
   ·rw [Array.getElem?_eq_none h] at hj; cases hj
  have hE : es.eraseIdxIfInBounds j = es.eraseIdx j hjl := by simp [Array.eraseIdxIfInBounds, hjl]
  have hL : (es.eraseIdxIfInBounds j).toList = es.toList.eraseIdx j := by rw [hE]; simp
  refine ⟨_, { w with heap := w.heap.setIfInBounds r (.map (es.eraseIdxIfInBounds j) ck) }, ?_, ⟨rfl, rfl, rfl, by simp⟩, hK _ (fun b hne => ?_) ⟨_, _, (heap_set hb').1, stamped_erase hs _, fun y hy => hks y ?_, ?_⟩⟩
  ·simp [Builtin.delete_, run_underlying hu, Go.MapKept.run_getObj_map hb', run_checkKey hd hk, run_findKey hd h1, Go.MapKept.run_setObj_map _ hb', Result.andThen]
  ·rw [← hw]; exact (heap_set hb').2 b hne
  ·rw [hL] at hy; exact (List.eraseIdx_sublist _ _).subset hy
  ·rw [hL]
   have hjl' : j < es.toList.length := by simpa using hjl
   have e1 : es.toList[j] = e := by have := List.getElem?_eq_getElem hjl'; rw [h2] at this; cases this; rfl
   have p1 : (es.toList).Perm (e :: es.toList.eraseIdx j) := by
    have h5 : es.toList = es.toList.take j ++ e :: es.toList.drop (j + 1) := by
     rw [← e1, ← List.drop_eq_getElem_cons hjl', List.take_append_drop]
    rw [List.eraseIdx_eq_take_drop_succ]
    exact (List.Perm.of_eq h5).trans List.perm_middle
   have p2 : (es.toList.map (·.key)).Perm (Value.string u :: (es.toList.eraseIdx j).map (·.key)) := by
    have := p1.map (·.key)
    simpa [h3] using this
   have p3 : (m.map Value.string).Perm (Value.string u :: (m.filter fun k => !decide (k = u)).map Value.string) := by
    have := (filter_ne_perm nd hum).symm.map Value.string
    simpa using this
   have p4 := (p2.symm.trans hp).trans p3
   have p5 := (List.perm_cons _).1 p4
   unfold miset
   simpa using p5
theorem mi_new {P : Program} {t kt : TypeId} {d : TypeDesc} {z : Value} {h : Heap} (hc : mpC P t = some (kt, d, z))
  (hK : ∀ r h', h r = none → Ext h h' → MiR h' r [] → K (.map (some r)) h') : vvM P (Instr.makeMap t none) h K := by
 intro w hw
 refine ⟨.map (some w.heap.size), w.alloc (.map #[] 0), rfl, ⟨rfl, rfl, rfl, by simp⟩, ?_⟩
 have ha : abs (w.alloc (.map #[] 0)) = upd (abs w) w.heap.size (.map #[] 0) := abs_alloc w _
 rw [ha, hw]
 have hn : h w.heap.size = none := by rw [← hw]; exact abs_fresh w
 exact hK _ _ hn (Ext.upd hn _) ⟨#[], 0, upd_same _ _ _, stamped_empty 0, by simp, by simp⟩
theorem mi_has {P : Program} {t kt : TypeId} {r : Nat} {m : Mine} {u : ByteArray} {h : Heap} (hc : mpC P t = some (kt, .string, .bool false)) (x : MiR h r m) (hK : K (.bool (mhas m u)) h) :
  vvM P (Instr.lookup t (.map (some r)) (.string u) false) h K := by
 refine lookup_vv hc (k := .string u) trivial x.map ?_
 have : lkA (.bool false) false (miF m (.string u)) = .bool (mhas m u) := by
  simp only [miF]
  cases hu : mhas m u
  ·simp; rfl
  ·simp; rfl
 rw [this]; exact hK
end Go.Den
namespace Go.Den
open Go
set_option linter.unusedVariables false
set_option linter.unusedSimpArgs false
inductive HK where
 | lock (s : Nat)
 | look
 | wat
 | unl (s : Nat)
 | drn (s : Nat)
 | pun (s : Nat)
 | bad
 | shut
def HP.kd (p : HP) (j : Nat) : HK :=
 if badB p.x then .bad else if p.x.kind = 9 then .shut
 else if p.x.kind = 8 then (if j < p.k then .lock j else if j = p.k then .look else if j ≤ 2 * p.k then .drn (j - p.k - 1) else .pun (j - 2 * p.k - 1))
 else if j = 0 then .lock p.s else if j = 1 then .look else if j = 2 then .wat else .unl p.s
def HK.need : HK → Int
 | .lock s => s
 | _ => -1
theorem HP.kd_congr {p p' : HP} (h2 : p'.x = p.x) (h3 : p'.k = p.k) (h4 : p'.s = p.s) (j : Nat) : p'.kd j = p.kd j := by simp only [HP.kd, h2, h3, h4]
theorem HP.kd_need (p : HP) (j : Nat) (hj : j < p.steps) (hat : p.at_ = j) : (p.kd j).need = p.needs := by
 unfold HP.kd HP.needs
 cases hb : badB p.x
 ·by_cases h9 : p.x.kind = 9
  ·have h1 : p.one = true := by simp [HP.one, h9]
   simp [h9, h1, HK.need]
  ·have h1 : p.one = false := by simp [HP.one, hb, h9]
   by_cases h8 : p.x.kind = 8
   ·simp only [h8, h1, hat]
    by_cases hk : j < p.k
    ·simp [hk, HK.need]
    ·simp [hk]
     split
     ·rfl
     ·split <;> rfl
   ·simp only [h8, h9, h1, hat]
    by_cases h0 : j = 0
    ·simp [h0, HK.need]
    ·simp [h0]
     split
     ·rfl
     ·split <;> rfl
 ·have h1 : p.one = true := by simp [HP.one, hb]
  simp [h1, HK.need]
structure HPI (p : HP) : Prop where
 vs : p.rep.vals = []
 ne : p.poll = false → p.rep.evs = []
 la : p.poll = true → p.all.length = min (p.at_ - (p.k + 1)) p.k
theorem HPI.hp0 (H : Hall) (who : Int) (x : OpD) : HPI (hp0 H who x) := ⟨rfl, fun _ => rfl, fun _ => by simp [Den.hp0]⟩
theorem HPI.step {p : HP} (i : HPI p) (m : Mine) (H : Hall) (n : Int) : HPI (p.step m H n).1 := by
 have hk := hstep_k p m H n
 have hpo : (p.step m H n).1.poll = p.poll := by simp only [HP.poll, HP.one, hk.2.1]
 unfold HP.step at *
 split at hpo
 rotate_left
 ·rename_i he; rw [if_neg he]; exact i
 rename_i he
 rw [if_pos he] at hk ⊢
 have hlt := HP.lt_of_en he
 unfold HP.stp at *
 split
 ·rename_i hb
  exact ⟨i.vs, i.ne, fun h => by
   have : p.one = true := by simp [HP.one, hb]
   simp [HP.poll, HP.one, hb] at h⟩
 rename_i hb
 split
 ·rename_i h9
  refine ⟨?_, fun _ => ?_, fun h => ?_⟩
  ·dsimp only; split <;> exact i.vs
  ·have := i.ne (by simp [HP.poll, HP.one, h9])
   dsimp only; split <;> exact this
  ·simp [HP.poll, HP.one, h9] at h
 rename_i h9
 split
 ·rename_i h8
  have hb' : badB p.x = false := by simpa using hb
  have ho : p.one = false := by simp [HP.one, hb', h9]
  have hp : p.poll = true := by simp [HP.poll, ho, h8]
  have hst : p.steps = 3 * p.k + 1 := by simp [HP.steps, ho, h8]
  have la := i.la hp
  have hnp : ∀ q : HP, q.x = p.x → ¬ q.poll = false := fun q hq h => by
   have : q.poll = p.poll := by simp only [HP.poll, HP.one, hq]
   rw [this, hp] at h; cases h
  unfold HP.stpP
  split
  ·exact ⟨i.vs, fun h => absurd h (hnp _ rfl), fun _ => by show p.all.length = min (p.at_ + 1 - (p.k + 1)) p.k; omega⟩
  split
  ·exact ⟨i.vs, fun h => absurd h (hnp _ rfl), fun _ => by show p.all.length = min (p.at_ + 1 - (p.k + 1)) p.k; omega⟩
  split
  ·exact ⟨i.vs, fun h => absurd h (hnp _ rfl), fun _ => by show (p.all ++ [_]).length = min (p.at_ + 1 - (p.k + 1)) p.k; simp; omega⟩
  ·exact ⟨i.vs, fun h => absurd h (hnp _ rfl), fun _ => by show p.all.length = min (p.at_ + 1 - (p.k + 1)) p.k; omega⟩
 rename_i h8
 have hnp : ∀ q : HP, q.x = p.x → ¬ q.poll = true := fun q hq h => by simp [HP.poll, hq, h8] at h
 have ne := i.ne (by simpa using hnp p rfl)
 unfold HP.stpW
 split
 ·exact ⟨i.vs, fun _ => ne, fun h => absurd h (hnp _ rfl)⟩
 split
 ·exact ⟨i.vs, fun _ => ne, fun h => absurd h (hnp _ rfl)⟩
 split
 ·split
  ·exact ⟨i.vs, fun _ => ne, fun h => absurd h (hnp _ rfl)⟩
  split
  ·exact ⟨i.vs, fun _ => ne, fun h => absurd h (hnp _ rfl)⟩
  ·exact ⟨i.vs, fun _ => ne, fun h => absurd h (hnp _ rfl)⟩
 ·exact ⟨i.vs, fun _ => ne, fun h => absurd h (hnp _ rfl)⟩
end Go.Den
namespace Go.Proofs.YtcnphhhcknhhaaaGreat
open Go Go.Den Go.MapKept
set_option linter.unusedSimpArgs false
set_option linter.unusedVariables false
set_option maxRecDepth 20000
def MineR (T : Tags) (h : Heap) (g : Tag) (q : Nat) (m : Mine) : Prop := ∃ r, h q = some (.cells #[.map (some r)] qkpZ (0, 0)) ∧ T q = g ++ [0] ∧ MiR h r m ∧ T r = g ++ [1]
theorem MineR.kp {U : Tag → Prop} {T T' : Tags} {h h' : Heap} {g : Tag} {q : Nat} {m : Mine} (x : MineR T h g q m) (k : Kp U T h T' h') (o : Off U g) : MineR T' h' g q m := by
 obtain ⟨r, h1, h2, h3, h4⟩ := x
 obtain ⟨es, ck, e1, e2⟩ := h3.e
 have a := k.at h1 h2 (o.at _)
 have b := k.at e1 h4 (o.at _)
 exact ⟨r, a.1, a.2, ⟨es, ck, b.1, e2⟩, b.2⟩
def IntB (F : Heap) (b : Nat) (n : Int) : Prop := F b = some (.cells #[.int .i64 n] qiZ (0, 0))
def PtB (F : Heap) (b q : Nat) : Prop := F b = some (.cells #[ptr q] qDZ (0, 0))
def AlB (F : Heap) (b al k : Nat) : Prop := F b = some (.cells #[.slice (some ⟨al, 0, none⟩) k k] qZZ (0, 0))
def PlB (F : Heap) (fv : Value) (f : FuncId) (cap : Array Value) : Prop := ∃ b, fv = .func (.func qdeZ) #[] #[ptr b] ∧ F b = some (.cells #[.func (.func f) #[] cap] qfsZ (0, 0))
def ActF (F : Heap) (q mq al : Nat) (p : HP) (fv : Value) : HK → Prop
 | .lock s => ∃ b1 b2, fv = .func (.func qcAZ) #[] #[ptr b1, ptr b2] ∧ IntB F b1 p.who ∧ IntB F b2 s
 | .look => ∃ b1 b2, fv = .func (.func qdAZ) #[] #[ptr b1, ptr b2] ∧ IntB F b1 p.who ∧ PtB F b2 q
 | .wat => ∃ b1 b2 b3 b4 b5 b6 uv, PlB F fv qdcZ #[ptr b1, ptr b2, ptr b3, ptr b4, ptr b5, ptr b6] ∧ PtB F b1 q ∧ F b2 = some (.cells #[.bool (decide (p.x.kind = 6))] qfrZ (0, 0)) ∧
  F b3 = some (.cells #[ptr mq] qjnZ (0, 0)) ∧ F b4 = some (.cells (opC p.x uv).toArray qCZ (0, 0)) ∧ IntB F b5 p.who ∧ IntB F b6 p.s
 | .unl s => ∃ b1 b2, PlB F fv qddZ #[ptr b1, ptr b2] ∧ IntB F b1 p.who ∧ IntB F b2 s
 | .drn s => ∃ b1 b2 b3 b4, PlB F fv qdyZ #[ptr b1, ptr b2, ptr b3, ptr b4] ∧ IntB F b1 p.who ∧ IntB F b2 s ∧ AlB F b3 al p.k ∧ PtB F b4 q
 | .pun s => ∃ b1 b2 b3 b4 b5, PlB F fv qdzZ #[ptr b1, ptr b2, ptr b3, ptr b4, ptr b5] ∧ IntB F b1 p.who ∧ IntB F b2 s ∧ IntB F b3 p.k ∧ AlB F b4 al p.k ∧ PtB F b5 q
 | .bad => ∃ b, fv = .func (.func qhRZ) #[] #[ptr b] ∧ PtB F b q
 | .shut => ∃ b1 b2, fv = .func (.func qhSZ) #[] #[ptr b1, ptr b2] ∧ IntB F b1 p.who ∧ PtB F b2 q
theorem PlB.ext {F F' : Heap} {fv : Value} {f : FuncId} {cap : Array Value} (e : Ext F F') (x : PlB F fv f cap) : PlB F' fv f cap := by
 obtain ⟨b, h1, h2⟩ := x
 exact ⟨b, h1, e _ _ h2⟩
theorem ActF.ext {F F' : Heap} {q mq al : Nat} {p : HP} {fv : Value} {k : HK} (e : Ext F F') (x : ActF F q mq al p fv k) : ActF F' q mq al p fv k := by
 cases k with
 | lock s => obtain ⟨b1, b2, h1, h2, h3⟩ := x; exact ⟨b1, b2, h1, e _ _ h2, e _ _ h3⟩
 | look => obtain ⟨b1, b2, h1, h2, h3⟩ := x; exact ⟨b1, b2, h1, e _ _ h2, e _ _ h3⟩
 | wat => obtain ⟨b1, b2, b3, b4, b5, b6, uv, h0, h1, h2, h3, h4, h5, h6⟩ := x; exact ⟨b1, b2, b3, b4, b5, b6, uv, h0.ext e, e _ _ h1, e _ _ h2, e _ _ h3, e _ _ h4, e _ _ h5, e _ _ h6⟩
 | unl s => obtain ⟨b1, b2, h1, h2, h3⟩ := x; exact ⟨b1, b2, h1.ext e, e _ _ h2, e _ _ h3⟩
 | drn s => obtain ⟨b1, b2, b3, b4, h0, h1, h2, h3, h4⟩ := x; exact ⟨b1, b2, b3, b4, h0.ext e, e _ _ h1, e _ _ h2, e _ _ h3, e _ _ h4⟩
 | pun s => obtain ⟨b1, b2, b3, b4, b5, h0, h1, h2, h3, h4, h5⟩ := x; exact ⟨b1, b2, b3, b4, b5, h0.ext e, e _ _ h1, e _ _ h2, e _ _ h3, e _ _ h4, e _ _ h5⟩
 | bad => obtain ⟨b, h1, h2⟩ := x; exact ⟨b, h1, e _ _ h2⟩
 | shut => obtain ⟨b1, b2, h1, h2, h3⟩ := x; exact ⟨b1, b2, h1, e _ _ h2, e _ _ h3⟩
theorem ActF.congr {F : Heap} {q mq al : Nat} {p p' : HP} {fv : Value} {k : HK} (h1 : p'.who = p.who) (h2 : p'.x = p.x) (h3 : p'.k = p.k) (h4 : p'.s = p.s) (x : ActF F q mq al p fv k) : ActF F q mq al p' fv k := by
 cases k <;> simpa only [ActF, h1, h2, h3, h4] using x
def hpC (p : HP) (av ev : Value) : List Value := [.int .i64 p.placed, av, .int .i64 p.at_, .int .u64 p.t.now, .int .u64 p.t.seq, .bool p.t.closed, .int .i64 p.rep.err, .slice none 0 0, ev, .bool p.rep.lost]
structure HPX (T : Tags) (h : Heap) (g : Tag) (q mq al n : Nat) (p : HP) (av ev : Value) (fv cv : Nat → Value) (evl : List Evt) : Prop where
 hp : h q = some (.cells (hpC p av ev).toArray qazZ (0, 0))
 tp : T q = g ++ [0]
 ac : Rw T h (g ++ [1]) 2 qgLZ av n (seqF n fun j => [.int .i64 (p.kd j).need, fv j])
 fn : ∀ j, j < n → ActF (fz T h) q mq al p (fv j) (p.kd j)
 al : p.poll = true → h al = some (.cells ((List.range p.k).map cv).toArray qnZ (0, 0)) ∧ T al = g ++ [2]
 av : p.poll = true → ∀ i, i < p.k → Sl 8 EvR (fz T h) (cv i) (p.all.getD i [])
 ev : Sl 8 EvR (fz T h) ev evl
def HPB (T : Tags) (h : Heap) (g : Tag) (q mq al n : Nat) (p : HP) : Prop := ∃ av ev fv cv, HPX T h g q mq al n p av ev fv cv []
def HPR (T : Tags) (h : Heap) (g : Tag) (q mq : Nat) (p : HP) : Prop := HPI p ∧ (∀ l ∈ p.all, l.length ≤ 16) ∧ ∃ al av ev fv cv, HPX T h g q mq al p.steps p av ev fv cv (if p.done then p.rep.evs else [])
theorem HPX.kp {U : Tag → Prop} {T T' : Tags} {h h' : Heap} {g : Tag} {q mq al n : Nat} {p : HP} {av ev : Value} {fv cv : Nat → Value} {evl : List Evt} (x : HPX T h g q mq al n p av ev fv cv evl) (k : Kp U T h T' h') (o : Off U g) (u : ¬ U []) : HPX T' h' g q mq al n p av ev fv cv evl :=
 ⟨(k.at x.hp x.tp (o.at _)).1, (k.at x.hp x.tp (o.at _)).2, x.ac.kp k (o.at _), fun j hj => (x.fn j hj).ext (k.ext u), fun hp => k.at (x.al hp).1 (x.al hp).2 (o.at _), fun hp i hi => (x.av hp i hi).ext (@EvR.ext) (k.ext u), x.ev.ext (@EvR.ext) (k.ext u)⟩
theorem HPB.kp {U : Tag → Prop} {T T' : Tags} {h h' : Heap} {g : Tag} {q mq al n : Nat} {p : HP} (x : HPB T h g q mq al n p) (k : Kp U T h T' h') (o : Off U g) (u : ¬ U []) : HPB T' h' g q mq al n p := by
 obtain ⟨av, ev, fv, cv, x⟩ := x
 exact ⟨av, ev, fv, cv, x.kp k o u⟩
theorem HPR.kp {U : Tag → Prop} {T T' : Tags} {h h' : Heap} {g : Tag} {q mq : Nat} {p : HP} (x : HPR T h g q mq p) (k : Kp U T h T' h') (o : Off U g) (u : ¬ U []) : HPR T' h' g q mq p := by
 obtain ⟨i, l, al, av, ev, fv, cv, x⟩ := x
 exact ⟨i, l, al, av, ev, fv, cv, x.kp k o u⟩
theorem HPB.hpr {T : Tags} {h : Heap} {g : Tag} {q mq al : Nat} {p : HP} (x : HPB T h g q mq al p.steps p) (i : HPI p) (h0 : p.all = []) (hd : p.done = false) : HPR T h g q mq p := by
 obtain ⟨av, ev, fv, cv, x⟩ := x
 exact ⟨i, by rw [h0]; simp, al, av, ev, fv, cv, by rw [hd]; exact x⟩
theorem HPX.st {T : Tags} {h : Heap} {g : Tag} {q mq al n : Nat} {p p' : HP} {av ev ev' : Value} {fv cv : Nat → Value} {evl : List Evt} (x : HPX T h g q mq al n p av ev fv cv evl) (w : Wf T h) {c : Array Value} (hc : c = (hpC p' av ev').toArray) (h1 : p'.who = p.who) (h2 : p'.x = p.x) (h3 : p'.k = p.k) (h4 : p'.s = p.s) {evl' : List Evt} (h5 : p'.all = p.all)
  (h6 : Sl 8 EvR (fz T h) ev' evl') :
  Only (fun t => t = g ++ [0]) T h T (upd h q (.cells c qazZ (0, 0))) ∧ HPX T (upd h q (.cells c qazZ (0, 0))) g q mq al n p' av ev' fv cv evl' := by
 have o : Only (fun t => t = g ++ [0]) T h T (upd h q (.cells c qazZ (0, 0))) := Only.upd w x.hp x.tp
 have u : ¬ (fun t => t = g ++ [0]) ([] : Tag) := by simp
 have hpo : p'.poll = p.poll := by simp only [HP.poll, HP.one, h2]
 refine ⟨o, by rw [upd_same', hc], x.tp, ?_, fun j hj => ?_, fun hp => ?_, fun hp i hi => ?_, h6.ext (@EvR.ext) (o.ext u)⟩
 ·have : (seqF n fun j => [.int .i64 (p'.kd j).need, fv j]) = seqF n fun j => [.int .i64 (p.kd j).need, fv j] := seqF_congr fun j _ => by rw [HP.kd_congr h2 h3 h4]
  rw [this]
  exact x.ac.kp o.k (by simp)
 ·rw [HP.kd_congr h2 h3 h4]
  exact ((x.fn j hj).ext (o.ext u)).congr h1 h2 h3 h4
 ·rw [hpo] at hp
  rw [h3]
  exact o.k.at (x.al hp).1 (x.al hp).2 (by simp)
 ·rw [hpo] at hp
  rw [h5]
  exact (x.av hp i (by omega)).ext (@EvR.ext) (o.ext u)
theorem bdHAct (n : Int) (f : FuncId) (a b : Array Value) : bdV (binf P qgLZ) [(0, .int .i64 n), (1, .func (.func f) a b)] = some (.agg #[.int .i64 n, .func (.func f) a b]) := by kernel_rfl
theorem bsHAct : bsI P qdEZ = some (qgLZ, 2, #[.int .i64 0, .nilFunc]) := by kernel_rfl
theorem unHAct : P.underlying qdEZ = some (.slice qgLZ) := by kernel_rfl
theorem apHAct : apC P qgLZ = some (2, 16, 2) := by kernel_rfl
variable {K : Value → Heap → Prop}
@[simp] theorem one_fnv (f : Fn) (a b : Array Value) : (Value.func f a b).oneCell' = true := rfl
theorem hadd_ok {T : Tags} {h : Heap} {g : Tag} {q mq al n : Nat} {p : HP} (w : Wf T h) (gg : Gd g) (x : HPB T h g q mq al n p) (hn : n < 1000) (f : FuncId) (cap : Array Value) (hf : ActF (fz T h) q mq al p (.func (.func f) #[] cap) (p.kd n))
  (hk : ∀ T' h', Only (pre g) T h T' h' → HPB T' h' g q mq al (n + 1) p → K (.tuple #[]) h') : callM P qbiZ #[ptr q, .int .i64 (p.kd n).need, .func (.func f) #[] cap] h K := by
 apply qrWZ
 unfold qkuZ
 obtain ⟨av, ev, fv, cv, x⟩ := x
 have cp := x.hp
 simp -implicitDefEqProofs only [hpC] at cp
 simp -implicitDefEqProofs [ld_at cp, cel_of cp, stm_at cp, stm_upd, ld_same, cel_same, over, bdHAct]
 refine Rw.app bsHAct unHAct apHAct (by omega) (by simp) (by simp) w x.ac (by simp [maxLen]; omega) (by omega) (by omega) (by simp) fun a v' T1 h1 o1 r1 => ?_
 have u1 : ¬ (fun t => t = g ++ [1]) ([] : Tag) := by simp
 have b := o1.k.at x.hp x.tp (by simp)
 have cp := b.1
 simp -implicitDefEqProofs only [hpC] at cp
 have o2 : Only (fun t => t = g ++ [0]) T1 h1 T1 (upd h1 q (.cells (hpC p v' ev).toArray qazZ (0, 0))) := Only.upd o1.wf b.1 b.2
 have u2 : ¬ (fun t => t = g ++ [0]) ([] : Tag) := by simp
 have ho := r1.one
 rw [stm_at (n := 1) (v := v') cp (by simp [ho.2]) (by simp) (by simp [ho.1, ho.2])]
 have hov : over #[.int .i64 p.placed, av, .int .i64 p.at_, .int .u64 p.t.now, .int .u64 p.t.seq, .bool p.t.closed, .int .i64 p.rep.err, .slice none 0 0, ev, .bool p.rep.lost] 1 v'.cells.toList = (hpC p v' ev).toArray := by
  rw [r1.one.2]; simp [over, hpC]
 rw [hov]
 have uu : ¬ pre g ([] : Tag) := gg.nil
 have oo : Only (pre g) T h T1 (upd h1 q (.cells (hpC p v' ev).toArray qazZ (0, 0))) := (o1.mono fun _ hh => eq_pre hh).trans (o2.mono fun _ hh => eq_pre hh)
 refine hk T1 _ oo ⟨v', ev, fun j => if j = n then .func (.func f) #[] cap else fv j, cv, by rw [upd_same'], b.2, ?_, fun j hj => ?_, fun hp => ?_, fun hp i hi => (x.av hp i hi).ext (@EvR.ext) (oo.ext uu), x.ev.ext (@EvR.ext) (oo.ext uu)⟩
 ·have e1 : (seqF (n + 1) fun j => [.int .i64 (p.kd j).need, if j = n then .func (.func f) #[] cap else fv j]) = (seqF n fun j => [.int .i64 (p.kd j).need, fv j]) ++ [.int .i64 (p.kd n).need, .func (.func f) #[] cap] := by
   rw [seqF_succ]
   congr 1
   ·exact seqF_congr fun j hj => by rw [if_neg (by omega)]
   ·simp -implicitDefEqProofs
  rw [e1]
  exact r1.kp o2.k (by simp)
 ·by_cases hjn : j = n
  ·subst hjn
   simp -implicitDefEqProofs only [if_true]
   exact hf.ext (oo.ext uu)
  ·simp -implicitDefEqProofs only [if_neg hjn]
   exact (x.fn j (by omega)).ext (oo.ext uu)
 ·have a1 := o1.k.at (x.al hp).1 (x.al hp).2 (by simp)
  exact o2.k.at a1.1 a1.2 (by simp)
theorem hplain_ok {T : Tags} {h : Heap} {g : Tag} {q mq al n : Nat} {p : HP} (w : Wf T h) (gg : Gd g) (x : HPB T h g q mq al n p) (hn : n < 1000) (f : FuncId) (cap : Array Value) (hne : (p.kd n).need = -1)
  (hf : ∀ F fv, Ext (fz T h) F → PlB F fv f cap → ActF F q mq al p fv (p.kd n)) {K : Value → Heap → Prop}
  (hk : ∀ T' h', Only (pre g) T h T' h' → HPB T' h' g q mq al (n + 1) p → K (.tuple #[]) h') : callM P qboZ #[ptr q, .func (.func f) #[] cap] h K := by
 apply qrxZ
 unfold qiqZ
 refine nw_intro fun v1 h1 n1 e1 c1 => ?_
 have o1 : Only non T h T h1 := Only.of_ext w e1
 have c1' : fz T h1 v1 = some (.cells #[.func (.func f) #[] cap] qfsZ (0, 0)) := fz_at c1 (w v1 n1)
 simp -implicitDefEqProofs only [ov_s]
 rw [← hne]
 exact hadd_ok o1.wf gg (x.kp o1.k (Off.non _) (not_non _)) hn _ _ (hf _ _ (fz_of_ext e1) ⟨v1, rfl, c1'⟩) fun T' h' o' x' => hk T' h' ((o1.mono non_up).trans o') x'
theorem hlocked_ok {T : Tags} {h : Heap} {g : Tag} {q mq al n s : Nat} {p : HP} (w : Wf T h) (gg : Gd g) (x : HPB T h g q mq al n p) (hn : n < 1000) (hkd : p.kd n = .lock s)
  (hk : ∀ T' h', Only (pre g) T h T' h' → HPB T' h' g q mq al (n + 1) p → K (.tuple #[]) h') : callM P qeeZ #[ptr q, .int .i64 p.who, .int .i64 s] h K := by
 apply qqUZ
 unfold qhJZ
 refine nw_intro fun v1 h1 n1 e1 c1 => ?_
 refine nw_intro fun v3 h3 n3 e3 c3 => ?_
 have o1 : Only non T h T h3 := Only.of_ext w (e1.trans e3)
 have c1 := e3 _ _ c1
 simp -implicitDefEqProofs [ld_at c3, cel_of c3, stm_at c3, stm_upd, ld_same, cel_same, over]
 have n3' : h v3 = none := fresh_of e1 n3
 have hne : (p.kd n).need = s := by rw [hkd]; rfl
 rw [← hne]
 refine hadd_ok o1.wf gg (x.kp o1.k (Off.non _) (not_non _)) hn _ _ ?_ fun T' h' o' x' => hk T' h' ((o1.mono non_up).trans o') x'
 rw [hkd]
 exact ⟨v1, v3, rfl, fz_at c1 (w v1 n1), fz_at c3 (w v3 n3')⟩
theorem hlook_ok {T : Tags} {h : Heap} {g : Tag} {q mq al n : Nat} {p : HP} (w : Wf T h) (gg : Gd g) (x : HPB T h g q mq al n p) (hn : n < 1000) (hkd : p.kd n = .look)
  (hk : ∀ T' h', Only (pre g) T h T' h' → HPB T' h' g q mq al (n + 1) p → K (.tuple #[]) h') : callM P qfkZ #[ptr q, .int .i64 p.who] h K := by
 apply qrSZ
 unfold qjzZ
 refine nw_intro fun v1 h1 n1 e1 c1 => ?_
 refine nw_intro fun v3 h3 n3 e3 c3 => ?_
 have o1 : Only non T h T h3 := Only.of_ext w (e1.trans e3)
 have c1 := e3 _ _ c1
 simp -implicitDefEqProofs [ld_at c1, cel_of c1, stm_at c1, stm_upd, ld_same, cel_same, over]
 have n3' : h v3 = none := fresh_of e1 n3
 have hne : (p.kd n).need = -1 := by rw [hkd]; rfl
 rw [← hne]
 refine hadd_ok o1.wf gg (x.kp o1.k (Off.non _) (not_non _)) hn _ _ ?_ fun T' h' o' x' => hk T' h' ((o1.mono non_up).trans o') x'
 rw [hkd]
 exact ⟨v3, v1, rfl, fz_at c3 (w v3 n3'), fz_at c1 (w v1 n1)⟩
theorem hedone_ok {T : Tags} {h : Heap} {g : Tag} {q mq : Nat} {p : HP} (x : HPR T h g q mq p) (hk : K (.bool p.done) h) : callM P qaKZ #[ptr q] h K := by
 apply qrJZ
 unfold qjoZ
 obtain ⟨hi, hl, al, av, ev, fv, cv, x⟩ := x
 have cp := x.hp
 simp -implicitDefEqProofs only [hpC] at cp
 simp -implicitDefEqProofs [ld_at cp, cel_of cp, stm_at cp, stm_upd, ld_same, cel_same, over, x.ac.len]
 refine kb (a := p.done) hk ?_
 simp -implicitDefEqProofs [HP.done]
theorem heplaced_ok {T : Tags} {h : Heap} {g : Tag} {q mq : Nat} {p : HP} (x : HPR T h g q mq p) (hk : K (.int .i64 p.placed) h) : callM P qgNZ #[ptr q] h K := by
 apply qqJZ
 unfold qhFZ
 obtain ⟨hi, hl, al, av, ev, fv, cv, x⟩ := x
 have cp := x.hp
 simp -implicitDefEqProofs only [hpC] at cp
 simp -implicitDefEqProofs [ld_at cp, cel_of cp, stm_at cp, stm_upd, ld_same, cel_same, over]
 exact hk
theorem hewaits_ok {T : Tags} {h : Heap} {g : Tag} {q mq : Nat} {p : HP} (x : HPR T h g q mq p) (hk : K (.int .i64 p.waits) h) : callM P qeNZ #[ptr q] h K := by
 apply qrpZ
 unfold qiiZ
 refine hedone_ok x ?_
 unfold qlvZ
 cases hd : p.done with
 | true => simp; exact kv hk (by simp [HP.waits, hd])
 | false =>
  simp -implicitDefEqProofs
  unfold qluZ
  obtain ⟨hi, hl, al, av, ev, fv, cv, x⟩ := x
  have cp := x.hp
  simp -implicitDefEqProofs only [hpC] at cp
  have hlt : p.at_ < p.steps := by simpa [HP.done] using hd
  obtain ⟨b, rb, ia⟩ := x.ac.1.ia (k := .i64) hlt
  have hcl : cel h b (p.at_ * 2) = some (.int .i64 (p.kd p.at_).need) := by
   have h1 := x.ac.1.cels rb (o := p.at_ * 2) (m := 2) (by omega)
   rw [seqF_at (sz := 2) (fun i _ => rfl) hlt] at h1
   exact (cels_get h1).2 0 (by simp)
  simp -implicitDefEqProofs [ld_at cp, cel_of cp, stm_at cp, stm_upd, ld_same, cel_same, over, ia, hcl]
  exact kv hk (by simp [HP.waits, hd, HP.kd_need p p.at_ hlt rfl])
theorem heenabled_ok {T : Tags} {h : Heap} {g gh : Tag} {q mq hp : Nat} {p : HP} {H : Hall} (x : HPR T h g q mq p) (y : HallR T h gh hp H) (hg : HPG H.n p) (hk : ∀ h', Ext h h' → K (.bool (p.enabled H)) h') : callM P qggZ #[ptr q, ptr hp] h K := by
 apply qqhZ
 unfold qgWZ
 refine hedone_ok x ?_
 unfold qjWZ
 cases hd : p.done with
 | true =>
  simp -implicitDefEqProofs
  exact kb (hk h (Ext.refl h)) (by simp [HP.enabled, hd])
 | false =>
  simp -implicitDefEqProofs
  refine hewaits_ok x ?_
  have hwt : p.waits = p.needs := by simp [HP.waits, hd]
  rw [hwt]
  by_cases hneg : p.needs < 0
  ·simp -implicitDefEqProofs [hneg]
   exact kb (hk h (Ext.refl h)) (by simp [HP.enabled, hd, hneg])
  ·simp -implicitDefEqProofs [hneg]
   refine hewaits_ok x ?_
   rw [hwt]
   obtain ⟨s, hs, hsn⟩ : ∃ s : Nat, p.needs = s ∧ s < H.n := by
    unfold HP.needs at hneg ⊢
    have hk' := hg.k
    have hs' := hg.s
    split at hneg
    ·omega
    ·rename_i h1
     rw [if_neg h1]
     split at hneg
     ·rename_i h8
      rw [if_pos h8]
      split at hneg
      ·rename_i hlt; rw [if_pos hlt]; exact ⟨_, rfl, by omega⟩
      ·omega
     ·rename_i h8
      rw [if_neg h8]
      split at hneg
      ·rename_i h0; rw [if_pos h0]; exact ⟨_, rfl, by omega⟩
      ·omega
   rw [hs]
   refine free_ok y hsn fun h' e' => ?_
   exact kb (hk h' e') (by rw [hs] at hneg; simp [HP.enabled, hd, hs, hneg])
end Go.Proofs.YtcnphhhcknhhaaaGreat
namespace Go.Proofs.YtcnphhhcknhhaaaGreat
open Go Go.Den Go.MapKept
set_option linter.unusedSimpArgs false
set_option linter.unusedVariables false
set_option maxRecDepth 20000
theorem mpMine : mpC P qayZ = some (qawZ, .string, .bool false) := by kernel_rfl
theorem unMine : P.underlying qayZ = some (.map qawZ qfrZ) := by kernel_rfl
theorem bdMine (r : Option Nat) : bdV (binf P qkpZ) [(0, .map r)] = some (.agg #[.map r]) := by kernel_rfl
variable {K : Value → Heap → Prop}
theorem newMine_ok {T : Tags} {h : Heap} {g : Tag} (w : Wf T h) (gg : Gd g) (hk : ∀ T' h' q, Only non T h T' h' → h q = none → MineR T' h' g q [] → K (ptr q) h') : callM P qhgZ #[] h K := by
 apply qsfZ
 unfold qmfZ
 refine mi_new mpMine fun r h1 n1 e1 m1 => ?_
 obtain ⟨es, ck, cr, mr⟩ := m1.e
 have o1 : Only non T h (tset T r (g ++ [1])) h1 := Only.enew _ w e1 n1 cr
 simp -implicitDefEqProofs [bdMine]
 refine nw_tag o1.wf (g ++ [0]) fun q T2 h2 n2 o2 t2 c2 => ?_
 have b := o2.k.at cr (tset_same T r (g ++ [1])) (not_non _)
 have nq : h q = none := fresh_of e1 n2
 exact hk T2 h2 q (o1.trans o2) nq ⟨r, c2, t2, ⟨es, ck, b.1, mr⟩, b.2⟩
theorem mcount_ok {T : Tags} {h : Heap} {g : Tag} {q : Nat} {m : Mine} (x : MineR T h g q m) (hk : K (.int .i64 m.length) h) : callM P qeMZ #[ptr q] h K := by
 apply qrjZ
 unfold qicZ
 obtain ⟨r, c1, t1, m1, t2⟩ := x
 simp -implicitDefEqProofs [ld_at c1, cel_of c1, stm_at c1, stm_upd, ld_same, cel_same, over]
 exact mi_len unMine m1 hk
theorem mhas_ok {T : Tags} {h : Heap} {g : Tag} {q : Nat} {m : Mine} (x : MineR T h g q m) (u : ByteArray) (hk : K (.bool (mhas m u)) h) : callM P qjhZ #[ptr q, .string u] h K := by
 apply qrUZ
 unfold qkqZ
 obtain ⟨r, c1, t1, m1, t2⟩ := x
 simp -implicitDefEqProofs [ld_at c1, cel_of c1, stm_at c1, stm_upd, ld_same, cel_same, over]
 exact mi_has mpMine m1 hk
theorem mset_ok {T : Tags} {h : Heap} {g : Tag} {q : Nat} {m : Mine} (w : Wf T h) (gg : Gd g) (x : MineR T h g q m) (u : ByteArray) (on : Bool) (hk : ∀ h', Only (pre g) T h T h' → MineR T h' g q (miset m u on) → K (.tuple #[]) h') : callM P qjkZ #[ptr q, .string u, .bool on] h K := by
 apply qsbZ
 unfold qkEZ
 obtain ⟨r, c1, t1, m1, t2⟩ := x
 obtain ⟨es, ck, cr, mr⟩ := m1.e
 have ne : q ≠ r := fun e => by subst e; rw [c1] at cr; cases cr
 have fin : ∀ h', (∀ b, b ≠ r → h' b = h b) → MiR h' r (miset m u on) → K (.tuple #[]) h' := fun h' k m' => by
  obtain ⟨es', ck', cr', mr'⟩ := m'.e
  have e : h' = upd h r (.map es' ck') := upd_of k cr'
  refine hk h' ?_ ⟨r, by rw [k q ne]; exact c1, t1, m', t2⟩
  rw [e]
  exact Only.upd w cr (by rw [t2]; exact pre_app _ _)
 cases on with
 | true =>
  simp -implicitDefEqProofs
  unfold qnsZ
  simp -implicitDefEqProofs [ld_at c1, cel_of c1, stm_at c1, stm_upd, ld_same, cel_same, over]
  exact mi_set mpMine m1 fin
 | false =>
  simp -implicitDefEqProofs
  unfold qntZ
  simp -implicitDefEqProofs [ld_at c1, cel_of c1, stm_at c1, stm_upd, ld_same, cel_same, over]
  exact mi_del mpMine m1 fin
def HPR0 (T : Tags) (h : Heap) (g : Tag) (q : Nat) (p : HP) : Prop := h q = some (.cells (hpC p (.slice none 0 0) (.slice none 0 0)).toArray qazZ (0, 0)) ∧ T q = g ++ [0] ∧ p.all = [] ∧ p.rep.evs = []
theorem HPR0.hpb {T : Tags} {h : Heap} {g : Tag} {q : Nat} {p : HP} (x : HPR0 T h g q p) (hp : p.poll = false) (mq : Nat) : HPB T h g q mq 0 0 p := by
 refine ⟨.slice none 0 0, .slice none 0 0, fun _ => .nilFunc, fun _ => .nilFunc, x.1, x.2.1, ?_, fun j hj => by omega, fun h => (by rw [hp] at h; cases h), fun h => (by rw [hp] at h; cases h), ?_⟩
 ·exact Rw.nil _ _ _ _ _
 ·exact .inl ⟨rfl, _, _, rfl⟩
theorem hwat_ok {T : Tags} {h : Heap} {g gh : Tag} {q mq hp : Nat} {p : HP} {H : Hall} (w : Wf T h) (gg : Gd g) (d2 : Off (pre g) gh) (x : HPB T h g q mq 0 0 p) (y : HallR T h gh hp H) (hc : 1 ≤ H.c.stripes ∧ H.c.stripes ≤ 8) (hb : badB p.x = false) (h9 : p.x.kind ≠ 9) (h8 : p.x.kind ≠ 8)
  (hs : p.s = (stripeOf p.x.user H.c.stripes).toNat) (hu : p.x.user.size ≤ maxLen) {uv : Value} (ou : One uv) {K : Value → Heap → Prop}
  (hk : ∀ T' h', Only (pre g) T h T' h' → HPB T' h' g q mq 0 4 p → K (.tuple #[]) h') : callM P qhsZ #[ptr q, ptr hp, ptr mq, .int .i64 p.who, .agg (opC p.x uv).toArray] h K := by
 have k0 : p.kd 0 = .lock p.s := by simp [HP.kd, hb, h9, h8]
 have k1 : p.kd 1 = .look := by simp [HP.kd, hb, h9, h8]
 have k2 : p.kd 2 = .wat := by simp [HP.kd, hb, h9, h8]
 have k3 : p.kd 3 = .unl p.s := by simp [HP.kd, hb, h9, h8]
 apply qrsZ
 unfold qilZ
 refine nw_intro fun v1 h1 n1 e1 c1 => ?_
 refine nw_intro fun v3 h3 n3 e3 c3 => ?_
 refine nw_intro fun v5 h5 n5 e5 c5 => ?_
 refine nw_agg fun v7 h7 n7 e7 c7 => ?_
 have e07 := ((e1.trans e3).trans e5).trans e7
 have o7 : Only non T h T h7 := Only.of_ext w e07
 have b7 : cel h7 v7 1 = some (.string p.x.user) := by simp [cel_of c7, opC]
 simp -implicitDefEqProofs [b7]
 refine hstripe_ok p.x.user hu (y.up o7 (Off.non _) (not_non _)) hc.2 ?_
 unfold qlIZ
 have hsi : stripeOf p.x.user H.c.stripes = (p.s : Int) := by have := stripeOf_lt (u := p.x.user) (n := H.c.stripes) hc.1; omega
 rw [hsi, zcInt]
 refine nw_st rfl rfl (by simp) fun v13 h13 n13 e13 c13 => ?_
 have b13 : cel h13 v7 0 = some (.int .i64 p.x.kind) := by simp [cel_of (e13 _ _ c7), opC]
 simp -implicitDefEqProofs [b13]
 have zcBool : zc P qfrZ = some #[.bool false] := by kernel_rfl
 rw [zcBool]
 refine nw_st rfl rfl (by simp) fun v19 h19 n19 e19 c19 => ?_
 have e09 := (e07.trans e13).trans e19
 have o9 : Only non T h T h19 := Only.of_ext w e09
 have T1 : h19 v1 = some (.cells #[ptr q] qDZ (0, 0)) ∧ T v1 = [] := ⟨e19 _ _ (e13 _ _ (e7 _ _ (e5 _ _ (e3 _ _ c1)))), w v1 n1⟩
 have T3 : h19 v3 = some (.cells #[ptr mq] qjnZ (0, 0)) ∧ T v3 = [] := ⟨e19 _ _ (e13 _ _ (e7 _ _ (e5 _ _ c3))), w v3 (fresh_of e1 n3)⟩
 have T5 : h19 v5 = some (.cells #[.int .i64 p.who] qiZ (0, 0)) ∧ T v5 = [] := ⟨e19 _ _ (e13 _ _ (e7 _ _ c5)), w v5 (fresh_of (e1.trans e3) n5)⟩
 have T7 : h19 v7 = some (.cells (opC p.x uv).toArray qCZ (0, 0)) ∧ T v7 = [] := ⟨e19 _ _ (e13 _ _ c7), w v7 (fresh_of ((e1.trans e3).trans e5) n7)⟩
 have T13 : h19 v13 = some (.cells #[.int .i64 p.s] qiZ (0, 0)) ∧ T v13 = [] := ⟨e19 _ _ c13, w v13 (fresh_of e07 n13)⟩
 have T19 : h19 v19 = some (.cells #[.bool (decide (p.x.kind = 6))] qfrZ (0, 0)) ∧ T v19 = [] := ⟨by simpa using c19, w v19 (fresh_of (e07.trans e13) n19)⟩
 have c1 := T1.1
 have c5 := T5.1
 have c13 := T13.1
 simp -implicitDefEqProofs [ld_at c1, cel_of c1, stm_at c1, ld_at c5, cel_of c5, stm_at c5, ld_at c13, cel_of c13, stm_at c13, stm_upd, ld_same, cel_same, over]
 refine hlocked_ok o9.wf gg (x.kp o9.k (Off.non _) (not_non _)) (by omega) k0 fun Ta ha oa xa => ?_
 unfold qlHZ
 have c1 := (oa.see T1 gg.nil).1
 have c5 := (oa.see T5 gg.nil).1
 simp -implicitDefEqProofs [ld_at c1, cel_of c1, stm_at c1, ld_at c5, cel_of c5, stm_at c5, stm_upd, ld_same, cel_same, over]
 refine hlook_ok oa.wf gg xa (by omega) k1 fun Tb hb' ob xb => ?_
 have oab := oa.trans ob
 unfold qlGZ
 have c1 := (oab.see T1 gg.nil).1
 simp -implicitDefEqProofs [ld_at c1, cel_of c1, stm_at c1, stm_upd, ld_same, cel_same, over]
 refine hplain_ok ob.wf gg xb (by omega) _ _ (by rw [k2]; rfl) (fun F fv e pl => ?_) fun Tc hc' oc xc => ?_
 ·rw [k2]
  have ff : ∀ {b o}, h19 b = some o ∧ T b = [] → F b = some o := fun {b o} hh => e _ _ (fz_at (oab.see hh gg.nil).1 (oab.see hh gg.nil).2)
  exact ⟨v1, v19, v3, v7, v5, v13, uv, pl, ff T1, ff T19, ff T3, ff T7, ff T5, ff T13⟩
 have oabc := oab.trans oc
 unfold qlFZ
 have c1 := (oabc.see T1 gg.nil).1
 simp -implicitDefEqProofs [ld_at c1, cel_of c1, stm_at c1, stm_upd, ld_same, cel_same, over]
 refine hplain_ok oc.wf gg xc (by omega) _ _ (by rw [k3]; rfl) (fun F fv e pl => ?_) fun Td hd' od xd => ?_
 ·rw [k3]
  have ff : ∀ {b o}, h19 b = some o ∧ T b = [] → F b = some o := fun {b o} hh => e _ _ (fz_at (oabc.see hh gg.nil).1 (oabc.see hh gg.nil).2)
  exact ⟨v5, v13, pl, ff T5, ff T13⟩
 exact hk _ _ ((o9.mono non_up).trans (oabc.trans od)) xd
theorem unSlSlEv : P.underlying qZZ = some (.slice qnZ) := by kernel_rfl
theorem apSlEv : apC P qnZ = some (1, 24, 1) := by kernel_rfl
theorem zcSlSlEv : zc P qZZ = some #[.slice none 0 0] := by kernel_rfl
theorem made_one (v : Value) (n : Nat) : madeCells #[v] (n * 1) = ((List.range n).map fun _ => v).toArray := by
 apply Array.ext
 ·simp -implicitDefEqProofs [madeCells]
 ·intro i h1 h2
  simp -implicitDefEqProofs [madeCells, Nat.mod_one]
def PoI (T0 : Tags) (h0 : Heap) (g : Tag) (q mq al : Nat) (p : HP) (v1 v3 v8 v14 : Nat) (n : Nat) (h' : Heap) : Prop :=
 ∃ T', Only (pre g) T0 h0 T' h' ∧ HPB T' h' g q mq al n p ∧ (h' v1 = some (.cells #[ptr q] qDZ (0, 0)) ∧ T' v1 = []) ∧ (h' v3 = some (.cells #[.int .i64 p.who] qiZ (0, 0)) ∧ T' v3 = []) ∧
  (h' v8 = some (.cells #[.int .i64 p.k] qiZ (0, 0)) ∧ T' v8 = []) ∧ (h' v14 = some (.cells #[.slice (some ⟨al, 0, none⟩) p.k p.k] qZZ (0, 0)) ∧ T' v14 = [])
theorem PoI.go {T0 : Tags} {h0 : Heap} {g : Tag} {q mq al : Nat} {p : HP} {v1 v3 v8 v14 : Nat} {T' T'' : Tags} {h' h'' : Heap} {m : Nat} (gg : Gd g) (o0 : Only (pre g) T0 h0 T' h') (a1 : h' v1 = some (.cells #[ptr q] qDZ (0, 0)) ∧ T' v1 = []) (a3 : h' v3 = some (.cells #[.int .i64 p.who] qiZ (0, 0)) ∧ T' v3 = [])
  (a8 : h' v8 = some (.cells #[.int .i64 p.k] qiZ (0, 0)) ∧ T' v8 = []) (a14 : h' v14 = some (.cells #[.slice (some ⟨al, 0, none⟩) p.k p.k] qZZ (0, 0)) ∧ T' v14 = []) (o : Only (pre g) T' h' T'' h'') (x : HPB T'' h'' g q mq al m p) : PoI T0 h0 g q mq al p v1 v3 v8 v14 m h'' :=
 ⟨T'', o0.trans o, x, o.see a1 gg.nil, o.see a3 gg.nil, o.see a8 gg.nil, o.see a14 gg.nil⟩
theorem hpoll_ok {T : Tags} {h : Heap} {g gh : Tag} {q mq hp : Nat} {p : HP} {H : Hall} (w : Wf T h) (gg : Gd g) (d2 : Off (pre g) gh) (x : HPR0 T h g q p) (y : HallR T h gh hp H) (hc : H.c.stripes = p.k) (hk8 : p.k ≤ 8) (hb : badB p.x = false) (h8 : p.x.kind = 8)
    (hk : ∀ T' h' al, Only (pre g) T h T' h' → HPB T' h' g q mq al p.steps p → K (.tuple #[]) h') : callM P qibZ #[ptr q, ptr hp, .int .i64 p.who] h K := by
  have h9 : p.x.kind ≠ 9 := by omega
  have hone : p.one = false := by simp [HP.one, hb, h9]
  have hst : p.steps = 3 * p.k + 1 := by simp [HP.steps, hone, h8]
  have k0 : ∀ j, j < p.k → p.kd j = .lock j := fun j hj => by simp [HP.kd, hb, h8, hj]
  have k1 : p.kd p.k = .look := by simp [HP.kd, hb, h8]
  have k2 : ∀ j, j < p.k → p.kd (p.k + 1 + j) = .drn j := fun j hj => by
    have e1 : ¬ p.k + 1 + j < p.k := by omega
    have e2 : ¬ p.k + 1 + j = p.k := by omega
    have e3 : p.k + 1 + j ≤ 2 * p.k := by omega
    have e4 : p.k + 1 + j - p.k - 1 = j := by omega
    simp -implicitDefEqProofs only [HP.kd, hb, h8, e1, e2, e3, e4, if_true, if_false, Bool.false_eq_true]
    simp -implicitDefEqProofs
  have k3 : ∀ j, j < p.k → p.kd (2 * p.k + 1 + j) = .pun j := fun j hj => by
    have e1 : ¬ 2 * p.k + 1 + j < p.k := by omega
    have e2 : ¬ 2 * p.k + 1 + j = p.k := by omega
    have e3 : ¬ 2 * p.k + 1 + j ≤ 2 * p.k := by omega
    have e4 : 2 * p.k + 1 + j - 2 * p.k - 1 = j := by omega
    simp -implicitDefEqProofs only [HP.kd, hb, h8, e1, e2, e3, e4, if_true, if_false, Bool.false_eq_true]
    simp -implicitDefEqProofs
  have hpo : p.poll = true := by simp [HP.poll, hone, h8]
  apply qrPZ
  unfold qjvZ
  refine nw_intro fun v1 h1 n1 e1 c1 => ?_
  refine nw_intro fun v3 h3 n3 e3 c3 => ?_
  have o3 : Only non T h T h3 := Only.of_ext w (e1.trans e3)
  refine config_ok (y.up o3 (Off.non _) (not_non _)) fun h5 e5 => ?_
  unfold qmMZ
  rw [zcInt]
  simp -implicitDefEqProofs [fdV, cfgC, hc]
  refine nw_st (v := .int .i64 p.k) rfl rfl (by simp) fun v8 h6 n6 e6 c6 => ?_
  simp -implicitDefEqProofs [ld_at c6, cel_of c6, stm_at c6, stm_upd, ld_same, cel_same, over]
  refine makeSlice_vv unSlSlEv apSlEv zcSlEv (n := p.k) (by omega) (by omega) (by unfold maxLen; omega) fun al h7 n7 e7 c7 => ?_
  unfold qmLZ
  rw [zcSlSlEv]
  refine nw_st (v := .slice (some ⟨al, 0, none⟩) p.k p.k) rfl rfl (by simp) fun v14 h9 n9 e9 c9 => ?_
  have e06 := ((e1.trans e3).trans e5).trans e6
  have e08 := (e06.trans e7).trans e9
  have n7' : h al = none := fresh_of e06 n7
  have c7 := e9 _ _ c7
  have oT : Only non T h (tset T al (g ++ [2])) h9 := Only.enew _ w e08 n7' c7
  have ne : ∀ b, b ≠ al → h b = none → (tset T al (g ++ [2])) b = [] := fun b hb hn => by rw [tset_ne hb]; exact w b hn
  have c8 := e9 _ _ (e7 _ _ c6)
  have m1 : v1 ≠ al := ne_fresh (e6 _ _ (e5 _ _ (e3 _ _ c1))) n7
  have m3 : v3 ≠ al := ne_fresh (e6 _ _ (e5 _ _ c3)) n7
  have m8 : v8 ≠ al := ne_fresh c6 n7
  have m14 : v14 ≠ al := Ne.symm (ne_fresh ‹h7 al = _› n9)
  have I0 : PoI T h g q mq al p v1 v3 v8 v14 0 h9 := by
    refine ⟨tset T al (g ++ [2]), oT.mono non_up, ?_, ⟨e9 _ _ (e7 _ _ (e6 _ _ (e5 _ _ (e3 _ _ c1)))), ne _ m1 n1⟩, ⟨e9 _ _ (e7 _ _ (e6 _ _ (e5 _ _ c3))), ne _ m3 (fresh_of e1 n3)⟩, ⟨c8, ne _ m8 (fresh_of ((e1.trans e3).trans e5) n6)⟩, ⟨c9, ne _ m14 (fresh_of (e06.trans e7) n9)⟩⟩
    have b := oT.k.at x.1 x.2.1 (not_non _)
    refine ⟨.slice none 0 0, .slice none 0 0, fun _ => .nilFunc, fun _ => .slice none 0 0, b.1, b.2, Rw.nil _ _ _ _ _, fun j hj => by omega, fun _ => ⟨?_, tset_same _ _ _⟩, fun _ i hi => ?_, ?_⟩
    · rw [c7, made_one]
    · rw [x.2.2.1]; exact .inl ⟨rfl, _, _, rfl⟩
    · exact .inl ⟨rfl, _, _, rfl⟩
  clear e1 e3 e5 e6 e7 e9 c1 c3 c6 c7 c8 c9 n1 n3 n6 n7 n9 e06 e08 oT
  rw [seqM_eq]
  unfold qmHZ
  have c8 := I0.choose_spec.2.2.2.2.1.1
  simp -implicitDefEqProofs [ld_at c8, cel_of c8, stm_at c8, stm_upd, ld_same, cel_same, over]
  clear c8
  refine loop_on [3, 5, 6, 7, 16] (fun s h' => ∃ i : Nat, PoI T h g q mq al p v1 v3 v8 v14 i h' ∧ s 17 = .int .i64 i ∧ i ≤ p.k) (fun s _ => (p.k - num (s 17)).toNat) ⟨0, I0, rfl, by omega⟩ ?_
  rintro s h' hf ⟨i, ⟨T', oI, xI, a1, a3, a8, a14⟩, s17, hi⟩
  have s3 : s 3 = ptr v1 := by simpa using hf 3 (by simp)
  have s5 : s 5 = ptr v3 := by simpa using hf 5 (by simp)
  have s6 : s 6 = ptr v8 := by simpa using hf 6 (by simp)
  have s7 : s 7 = ptr v14 := by simpa using hf 7 (by simp)
  have s16 : s 16 = .int .i64 p.k := by simpa using hf 16 (by simp)
  unfold qmGZ
  simp -implicitDefEqProofs only [s16, s17, bin_lss, ov_s, cd_b]
  refine ⟨fun hc => ?_, fun hc => ?_⟩
  · have hlt : i < p.k := by have : ((i : Int) < p.k) := by simpa using hc
                             omega
    have hw : IntKind.i64.wrap ((i : Int) + 1) = (i + 1 : Nat) := by rw [wrap64_id (by omega) (by omega)]; omega
    have c1 := a1.1
    have c3 := a3.1
    unfold qmFZ
    simp -implicitDefEqProofs [s3, s5, s17, ld_at c1, cel_of c1, stm_at c1, ld_at c3, cel_of c3, stm_at c3, stm_upd, ld_same, cel_same, over]
    refine hlocked_ok oI.wf gg xI (by omega) (k0 i hlt) fun T2 h2 o2 x2 => ?_
    unfold qmEZ
    simp -implicitDefEqProofs [s3, s5, s6, s7, s16, s17, hw, -Int.natCast_add]
    exact ⟨⟨i + 1, PoI.go gg oI a1 a3 a8 a14 o2 x2, rfl, by omega⟩, by omega⟩
  have hie : i = p.k := by have : ¬ ((i : Int) < p.k) := by simpa using hc
                           omega
  subst hie
  unfold qmKZ
  have c1 := a1.1
  have c3 := a3.1
  simp -implicitDefEqProofs [s3, s5, ld_at c1, cel_of c1, stm_at c1, ld_at c3, cel_of c3, stm_at c3, stm_upd, ld_same, cel_same, over]
  refine hlook_ok oI.wf gg xI (by omega) k1 fun T2 h2 o2 x2 => ?_
  have I2 := PoI.go gg oI a1 a3 a8 a14 o2 x2
  unfold qmJZ
  rw [seqM_eq]
  unfold qmIZ
  have c8 := I2.choose_spec.2.2.2.2.1.1
  simp -implicitDefEqProofs [s6, ld_at c8, cel_of c8, stm_at c8, stm_upd, ld_same, cel_same, over]
  refine loop_on [3, 5, 6, 7, 28] (fun s h' => ∃ i : Nat, PoI T h g q mq al p v1 v3 v8 v14 (p.k + 1 + i) h' ∧ s 29 = .int .i64 i ∧ i ≤ p.k) (fun s _ => (p.k - num (s 29)).toNat) ⟨0, I2, rfl, by omega⟩ ?_
  clear I2 c8 c1 c3 a1 a3 a8 a14 xI oI x2 o2
  rintro r h3 hf3 ⟨i, ⟨T', oI, xI, a1, a3, a8, a14⟩, r29, hi⟩
  have r3 : r 3 = ptr v1 := by simpa [s3] using hf3 3 (by simp)
  have r5 : r 5 = ptr v3 := by simpa [s5] using hf3 5 (by simp)
  have r6 : r 6 = ptr v8 := by simpa [s6] using hf3 6 (by simp)
  have r7 : r 7 = ptr v14 := by simpa [s7] using hf3 7 (by simp)
  have r28 : r 28 = .int .i64 p.k := by simpa using hf3 28 (by simp)
  unfold qlAZ
  simp -implicitDefEqProofs only [r28, r29, bin_lss, ov_s, cd_b]
  refine ⟨fun hc => ?_, fun hc => ?_⟩
  · have hlt : i < p.k := by have : ((i : Int) < p.k) := by simpa using hc
                             omega
    have hw : IntKind.i64.wrap ((i : Int) + 1) = (i + 1 : Nat) := by rw [wrap64_id (by omega) (by omega)]; omega
    unfold qlzZ
    rw [zcInt]
    simp -implicitDefEqProofs only [r29]
    refine nw_st (v := .int .i64 i) rfl rfl (by simp) fun v42 h42 n42 e42 c42 => ?_
    have o42 : Only non T' h3 T' h42 := Only.of_ext oI.wf e42
    have c1 := e42 _ _ a1.1
    simp -implicitDefEqProofs [r3, r5, r7, ld_at c1, cel_of c1, stm_at c1, stm_upd, ld_same, cel_same, over]
    refine hplain_ok o42.wf gg (xI.kp o42.k (Off.non _) (not_non _)) (by omega) _ _ (by rw [k2 i hlt]; rfl) (fun F fv e pl => ?_) fun T2 h2 o2 x2 => ?_
    · rw [k2 i hlt]
      have ff : ∀ {b o}, h3 b = some o ∧ T' b = [] → F b = some o := fun {b o} hh => e _ _ (fz_at (e42 _ _ hh.1) hh.2)
      exact ⟨v3, v42, v14, v1, pl, ff a3, e _ _ (fz_at c42 (oI.wf _ n42)), ff a14, ff a1⟩
    unfold qlyZ
    simp -implicitDefEqProofs [s3, s5, s6, s7, r3, r5, r6, r7, r28, r29, hw, -Int.natCast_add]
    exact ⟨⟨i + 1, PoI.go gg oI a1 a3 a8 a14 ((o42.mono non_up).trans o2) x2, rfl, by omega⟩, by omega⟩
  have hie : i = p.k := by have : ¬ ((i : Int) < p.k) := by simpa using hc
                           omega
  subst hie
  unfold qlEZ
  have c8 := a8.1
  simp -implicitDefEqProofs [r6, ld_at c8, cel_of c8, stm_at c8, stm_upd, ld_same, cel_same, over]
  have I3 : PoI T h g q mq al p v1 v3 v8 v14 (2 * p.k + 1 + 0) h3 := ⟨T', oI, by rw [show 2 * p.k + 1 + 0 = p.k + 1 + p.k by omega]; exact xI, a1, a3, a8, a14⟩
  refine loop_on [3, 5, 6, 7, 36] (fun s h' => ∃ i : Nat, PoI T h g q mq al p v1 v3 v8 v14 (2 * p.k + 1 + i) h' ∧ s 37 = .int .i64 i ∧ i ≤ p.k) (fun s _ => (p.k - num (s 37)).toNat) ⟨0, I3, rfl, by omega⟩ ?_
  clear I3 c8 a1 a3 a8 a14 xI oI
  rintro u h4 hf4 ⟨i, ⟨T', oI, xI, a1, a3, a8, a14⟩, u37, hi⟩
  have u3 : u 3 = ptr v1 := by simpa [r3] using hf4 3 (by simp)
  have u5 : u 5 = ptr v3 := by simpa [r5] using hf4 5 (by simp)
  have u6 : u 6 = ptr v8 := by simpa [r6] using hf4 6 (by simp)
  have u7 : u 7 = ptr v14 := by simpa [r7] using hf4 7 (by simp)
  have u36 : u 36 = .int .i64 p.k := by simpa using hf4 36 (by simp)
  unfold qlDZ
  simp -implicitDefEqProofs only [u36, u37, bin_lss, ov_s, cd_b]
  refine ⟨fun hc => ?_, fun hc => ?_⟩
  · have hlt : i < p.k := by have : ((i : Int) < p.k) := by simpa using hc
                             omega
    have hw : IntKind.i64.wrap ((i : Int) + 1) = (i + 1 : Nat) := by rw [wrap64_id (by omega) (by omega)]; omega
    unfold qlCZ
    rw [zcInt]
    simp -implicitDefEqProofs only [u37]
    refine nw_st (v := .int .i64 i) rfl rfl (by simp) fun v42 h42 n42 e42 c42 => ?_
    have o42 : Only non T' h4 T' h42 := Only.of_ext oI.wf e42
    have c1 := e42 _ _ a1.1
    simp -implicitDefEqProofs [u3, u5, u6, u7, ld_at c1, cel_of c1, stm_at c1, stm_upd, ld_same, cel_same, over]
    refine hplain_ok o42.wf gg (xI.kp o42.k (Off.non _) (not_non _)) (by omega) _ _ (by rw [k3 i hlt]; rfl) (fun F fv e pl => ?_) fun T2 h2 o2 x2 => ?_
    · rw [k3 i hlt]
      have ff : ∀ {b o}, h4 b = some o ∧ T' b = [] → F b = some o := fun {b o} hh => e _ _ (fz_at (e42 _ _ hh.1) hh.2)
      exact ⟨v3, v42, v8, v14, v1, pl, ff a3, e _ _ (fz_at c42 (oI.wf _ n42)), ff a8, ff a14, ff a1⟩
    unfold qlBZ
    simp -implicitDefEqProofs [r3, r5, r6, r7, u3, u5, u6, u7, u36, u37, hw, -Int.natCast_add]
    exact ⟨⟨i + 1, PoI.go gg oI a1 a3 a8 a14 ((o42.mono non_up).trans o2) x2, rfl, by omega⟩, by omega⟩
  have hie : i = p.k := by have : ¬ ((i : Int) < p.k) := by simpa using hc
                           omega
  subst hie
  simp -implicitDefEqProofs
  refine hk T' h4 al oI ?_
  rw [hst, show 3 * p.k + 1 = 2 * p.k + 1 + p.k by omega]
  exact xI
end Go.Proofs.YtcnphhhcknhhaaaGreat
namespace Go.Proofs.YtcnphhhcknhhaaaGreat
open Go Go.Den Go.MapKept
set_option linter.unusedSimpArgs false
set_option linter.unusedVariables false
set_option maxRecDepth 20000
theorem bdMoment : bdV (binf P qozZ) [(0, .int .i64 (-1))] = some (.agg #[.int .i64 (-1)]) := by kernel_rfl
theorem bdHProc : bdV (binf P qazZ) [(0, .agg #[.int .i64 (-1)])] = some (.agg #[.int .i64 (-1), .slice none 0 0, .int .i64 0, .int .u64 0, .int .u64 0, .bool false, .int .i64 0, .slice none 0 0, .slice none 0 0, .bool false]) := by kernel_rfl
theorem zcPHp : zc P qDZ = some #[.pointer none] := by kernel_rfl
variable {K : Value → Heap → Prop}
theorem henew_ok (who : Int) (x : OpD) (xw : OpW x) {T : Tags} {h : Heap} {g gh : Tag} {mq hp : Nat} {H : Hall} (w : Wf T h) (gg : Gd g) (d2 : Off (pre g) gh) (y : HallR T h gh hp H) {v : Value} (hv : Sl 1 StrR (fz T h) v x.users) (hl : x.users.length < 1000000) (c8 : 1 ≤ H.c.stripes ∧ H.c.stripes ≤ 8) (hn : (H.n : Int) = H.c.stripes)
  (hk : ∀ T' h' q, Only (pre g) T h T' h' → HPR T' h' g q mq (hp0 H who x) → K (ptr q) h') : callM P qeYZ #[ptr hp, ptr mq, .int .i64 who, .agg (opC x v).toArray] h K := by
 apply qsNZ
 unfold qpuZ
 have hone := hv.one
 refine nw_intro fun v1 h1 n1 e1 c1 => ?_
 refine nw_agg fun v3 h3 n3 e3 c3 => ?_
 simp -implicitDefEqProofs [bdMoment, bdHProc]
 have e03 := e1.trans e3
 have o3 : Only non T h T h3 := Only.of_ext w e03
 refine nw_tag o3.wf (g ++ [0]) fun q T4 h4 n4 o4 t4 c4 => ?_
 have o34 := o3.trans o4
 have c1 := o34.k
 have A1 : h4 v1 = some (.cells #[.int .i64 who] qiZ (0, 0)) ∧ T4 v1 = [] := o4.k.at (e3 _ _ ‹h1 v1 = _›) (w v1 n1) (not_non _)
 have A3 : h4 v3 = some (.cells (opC x v).toArray qCZ (0, 0)) ∧ T4 v3 = [] := o4.k.at c3 (w v3 (fresh_of e1 n3)) (not_non _)
 rw [zcPHp]
 refine nw_st rfl rfl (by simp) fun v9 h9 n9 e9 c9 => ?_
 have o9 : Only non T4 h4 T4 h9 := Only.of_ext o4.wf e9
 have B1 := o9.see A1 (not_non _)
 have B3 := o9.see A3 (not_non _)
 have B9 : h9 v9 = some (.cells #[ptr q] qDZ (0, 0)) ∧ T4 v9 = [] := ⟨c9, o4.wf v9 n9⟩
 have oT := o34.trans o9
 have b4 := o9.k.at c4 t4 (not_non _)
 have X0 : HPR0 T4 h9 g q (hp0 H who x) := ⟨b4.1, b4.2, rfl, rfl⟩
 rw [seqM_eq]
 have fin : ∀ {T' : Tags} {h' : Heap} {s : Env}, Only (pre g) T4 h9 T' h' → (∃ al, HPB T' h' g q mq al (hp0 H who x).steps (hp0 H who x)) → s 9 = ptr v9 → ov (ldV (some none) (s 9) h') (fun v41 => (retM P [.tmp 8] K) .ret [] (puts s [(40, v41), (8, v41)]) h') := by
  intro T' h' s o hx hs
  have c9 := (o.see B9 gg.nil).1
  simp -implicitDefEqProofs [hs, ld_at c9, cel_of c9, stm_at c9, stm_upd, ld_same, cel_same, over]
  obtain ⟨al, hx⟩ := hx
  refine hk T' h' q ((oT.mono non_up).trans o) (hx.hpr (HPI.hp0 H who x) rfl ?_)
  have : 1 ≤ (hp0 H who x).steps := by unfold HP.steps; split <;> (try split) <;> omega
  have h0 : (hp0 H who x).at_ = 0 := rfl
  simp -implicitDefEqProofs [HP.done, h0]; omega
 unfold qqFZ
 have oa : ldV (some (some 7)) (ptr v3) h9 = some (.agg (opC x v).toArray) := by simp [ld_at B3.1, opC]
 simp -implicitDefEqProofs only [oa, ov_s]
 have hv9 : Sl 1 StrR h9 v x.users := hv.ext (@StrR.ext) ((oT.ext (not_non _)).trans (fz_ext _ _))
 refine modBad_ok x xw hv9 hl fun h10 e10 => ?_
 have o10 : Only non T4 h9 T4 h10 := Only.of_ext o9.wf e10
 have C1 := o10.see B1 (not_non _)
 have C3 := o10.see B3 (not_non _)
 have C9 := o10.see B9 (not_non _)
 have b10 := o10.k.at X0.1 X0.2.1 (not_non _)
 have X : HPR0 T4 h10 g q (hp0 H who x) := ⟨b10.1, b10.2, rfl, rfl⟩
 have y10 := (((y.up o3 (Off.non _) (not_non _)).up o4 (Off.non _) (not_non _)).up o9 (Off.non _) (not_non _)).up o10 (Off.non _) (not_non _)
 have c1 := C1.1
 have c9 := C9.1
 have x0 : cel h10 v3 0 = some (.int .i64 x.kind) := by simp [cel_of C3.1, opC]
 unfold qqEZ
 cases hb : badB x with
 | true =>
  simp -implicitDefEqProofs
  unfold qqyZ
  simp -implicitDefEqProofs [ld_at c9, cel_of c9, stm_at c9, stm_upd, ld_same, cel_same, over]
  have hone : (hp0 H who x).one = true := by simp [HP.one, hp0, hb]
  have hpo : (hp0 H who x).poll = false := by simp [HP.poll, hone]
  have k0 : (hp0 H who x).kd 0 = .bad := by simp [HP.kd, hp0, hb]
  have hst : (hp0 H who x).steps = 1 := by simp [HP.steps, hone]
  have hne : ((hp0 H who x).kd 0).need = -1 := by rw [k0]; rfl
  rw [← hne]
  refine hadd_ok (n := 0) o10.wf gg (X.hpb hpo mq) (by omega) _ _ (by rw [k0]; exact ⟨v9, rfl, fz_at C9.1 C9.2⟩) fun T5 h5 o5 x5 => ?_
  unfold qqxZ
  refine fin ((o10.mono non_up).trans o5) ⟨0, by rw [hst]; exact x5⟩ (by simp)
 | false =>
  simp -implicitDefEqProofs
  unfold qqDZ
  simp -implicitDefEqProofs [x0]
  refine ⟨fun h8 => ?_, fun h8 => ?_⟩
  ·unfold qqAZ
   simp -implicitDefEqProofs [ld_at c1, cel_of c1, stm_at c1, ld_at c9, cel_of c9, stm_at c9, stm_upd, ld_same, cel_same, over]
   refine hpoll_ok (p := hp0 H who x) (mq := mq) o10.wf gg d2 X y10 hn.symm (by show H.n ≤ 8; omega) hb h8 fun T5 h5 al o5 x5 => ?_
   unfold qqzZ
   exact fin ((o10.mono non_up).trans o5) ⟨al, x5⟩ (by simp)
  ·unfold qqCZ
   simp -implicitDefEqProofs [x0]
   refine ⟨fun h9 => ?_, fun h9 => ?_⟩
   ·unfold qqBZ
    simp -implicitDefEqProofs [ld_at c1, cel_of c1, stm_at c1, ld_at c9, cel_of c9, stm_at c9, stm_upd, ld_same, cel_same, over]
    have hone : (hp0 H who x).one = true := by simp [HP.one, hp0, h9]
    have hpo : (hp0 H who x).poll = false := by simp [HP.poll, hone]
    have k0 : (hp0 H who x).kd 0 = .shut := by simp [HP.kd, hp0, hb, h9]
    have hst : (hp0 H who x).steps = 1 := by simp [HP.steps, hone]
    have hne : ((hp0 H who x).kd 0).need = -1 := by rw [k0]; rfl
    rw [← hne]
    refine hadd_ok (n := 0) o10.wf gg (X.hpb hpo mq) (by omega) _ _ (by rw [k0]; exact ⟨v1, v9, rfl, fz_at C1.1 C1.2, fz_at C9.1 C9.2⟩) fun T5 h5 o5 x5 => ?_
    unfold qpIZ
    exact fin ((o10.mono non_up).trans o5) ⟨0, by rw [hst]; exact x5⟩ (by simp)
   ·unfold qpKZ
    have oa : ldV (some (some 7)) (ptr v3) h10 = some (.agg (opC x v).toArray) := by simp [ld_at C3.1, opC]
    simp -implicitDefEqProofs [ld_at c1, cel_of c1, stm_at c1, ld_at c9, cel_of c9, stm_at c9, stm_upd, ld_same, cel_same, over, oa]
    have hone : (hp0 H who x).one = false := by simp [HP.one, hp0, hb, h9]
    have hpo : (hp0 H who x).poll = false := by simp [HP.poll, hone]; exact h8
    have hst : (hp0 H who x).steps = 4 := by simp [HP.steps, hone]; exact fun h => absurd h h8
    refine hwat_ok (p := hp0 H who x) o10.wf gg d2 (X.hpb hpo mq) y10 c8 hb h9 h8 rfl xw.s1 hv.one fun T5 h5 o5 x5 => ?_
    unfold qpJZ
    exact fin ((o10.mono non_up).trans o5) ⟨0, by rw [hst]; exact x5⟩ (by simp)
end Go.Proofs.YtcnphhhcknhhaaaGreat
namespace Go.Proofs.YtcnphhhcknhhaaaGreat
open Go Go.Den Go.MapKept
set_option linter.unusedSimpArgs false
set_option linter.unusedVariables false
set_option maxRecDepth 20000
def EvsR (h : Heap) (c : List Value) (l : List Evt) : Prop := ∃ v, c = [v] ∧ Sl 8 EvR h v l
theorem rng_set (k : Nat) (f : Nat → Value) (b : Nat) (v : Value) : (((List.range k).map f).toArray.setIfInBounds b v) = ((List.range k).map fun i => if i = b then v else f i).toArray := by
 apply Array.ext
 ·simp -implicitDefEqProofs
 ·intro i h1 h2
  rw [Array.getElem_setIfInBounds (by simpa using h2)]
  by_cases h : b = i
  ·subst h; simp
  ·rw [if_neg h]; simp [Ne.symm h]
def rngC (k : Nat) (f : Nat → Nat) : Array Value := ((List.range k).map fun i => Value.int .i64 (f i)).toArray
def restE (ls : List (List Evt)) (p : Nat → Nat) : List (List Evt) := (List.range ls.length).map fun i => (nth ls i).drop (p i)
theorem nth_rest {ls : List (List Evt)} {p : Nat → Nat} {i : Nat} (hi : i < ls.length) : nth (restE ls p) i = (nth ls i).drop (p i) := by
 unfold restE
 show ((List.range ls.length).map _).getD i [] = _
 rw [List.getD_eq_getElem?_getD]
 simp -implicitDefEqProofs [hi]
theorem rest_len (ls : List (List Evt)) (p : Nat → Nat) : (restE ls p).length = ls.length := by simp [restE]
theorem rest_zero (ls : List (List Evt)) : restE ls (fun _ => 0) = ls := by
 apply List.ext_getElem (by simp [restE])
 intro i h1 h2
 simp -implicitDefEqProofs [restE, nth, h2]
theorem rest_set {ls : List (List Evt)} {p : Nat → Nat} {b : Nat} (hb : b < ls.length) : (restE ls p).set b (nth (restE ls p) b).tail = restE ls (fun i => if i = b then p b + 1 else p i) := by
 apply List.ext_getElem (by simp [restE])
 intro i h1 h2
 have hi : i < ls.length := by simpa [restE] using h2
 rw [List.getElem_set]
 by_cases h : b = i
 ·subst h
  rw [if_pos rfl, nth_rest hb]
  simp -implicitDefEqProofs [restE]
 ·rw [if_neg h]
  simp -implicitDefEqProofs [restE, Ne.symm h]
def bestV (o : Option Nat) : Int := match o with
 | some b => b
 | none => -1
def slen : Value → Nat
 | .slice _ n _ => n
 | _ => 0
theorem row_slen {sz : Nat} {e : TypeId} {h : Heap} {v : Value} {n : Nat} {xs : List Value} (r : Row sz e h v n xs) : slen v = n := by
 rcases r.2 with ⟨rfl, h2⟩ | ⟨g, cap, cur, rfl, _⟩
 ·simp -implicitDefEqProofs only [slen]; exact h2.symm
 ·rfl
structure MgI (h : Heap) (ls : List (List Evt)) (ab : Nat) (p : Nat → Nat) (out : List Evt) (ov : Value) (h' : Heap) : Prop where
 e : Ext h h'
 ca : h' ab = some (.cells (rngC ls.length p) qiZ (0, 0))
 o : Rf 8 qrZ h h' ov out.length (out.flatMap evC)
 na : rowOf ov ≠ some ab
 m : mergeE ls = out ++ mergeE (restE ls p)
 t : out.length + totE (restE ls p) = totE ls
 le : ∀ i, i < ls.length → p i ≤ (nth ls i).length
theorem rngC_cel {h : Heap} {ab k : Nat} {p : Nat → Nat} (c : h ab = some (.cells (rngC k p) qiZ (0, 0))) {i : Nat} (hi : i < k) : cel h ab i = some (.int .i64 (p i)) := by
 rw [cel_of c]; simp [rngC, hi]
theorem ia_sl {ab k i : Nat} (hi : i < k) : iaV (some (none, 1)) (.slice (some ⟨ab, 0, none⟩) k k) (.int .i64 i) = some (.pointer (some ⟨ab, i, none⟩)) := by
 have : (0 : Int) ≤ i ∧ (i : Int) < k := by omega
 simp -implicitDefEqProofs [iaV, this]
theorem evs_at {F : Heap} {v : Value} {ls : List (List Evt)} (x : Sl 1 EvsR F v ls) {i : Nat} (hi : i < ls.length) : ∃ b q u, iaV (some (none, 1)) v (.int .i64 i) = some (.pointer (some ⟨b, q, none⟩)) ∧ (∀ h', Ext F h' → cel h' b q = some u) ∧ Sl 8 EvR F u (nth ls i) := by
 obtain ⟨b, o, c, i1, i2, i3⟩ := x.at (k := .i64) (i := i) (by omega) (by omega)
 simp -implicitDefEqProofs only [Int.toNat_natCast] at i3
 obtain ⟨u, rfl, hu⟩ := i3
 have e : nth ls i = ls[i] := by simp [nth, hi]
 refine ⟨b, o, u, i1, fun h' e => ?_, by rw [e]; exact hu⟩
 have := (cels_get (cels_ext e i2)).2 0 (by simp)
 simpa using this
theorem ev_seq {F : Heap} {v : Value} {l : List Evt} (x : Sl 8 EvR F v l) {i : Nat} (hi : i < l.length) : ∃ b q, iaV (some (none, 8)) v (.int .i64 i) = some (.pointer (some ⟨b, q, none⟩)) ∧ (∀ h', Ext F h' → cels h' b q 8 = some (evC l[i])) ∧ ∀ h', Ext F h' → cel h' b (q + 7) = some (.int .u64 (l[i].seq)) := by
 obtain ⟨b, q, h1, h2⟩ := ev_ld x hi (k := .i64)
 refine ⟨b, q, h1, h2, fun h' e => ?_⟩
 have := (cels_get (h2 h' e)).2 7 (by simp [evC, presC])
 simpa [evC, presC] using this
theorem hd_rest {ls : List (List Evt)} {p : Nat → Nat} {i : Nat} (hi : i < ls.length) (h : p i < (nth ls i).length) : hdE (nth (restE ls p) i) = (nth ls i)[p i] := by
 rw [nth_rest hi]
 unfold hdE
 rw [List.drop_eq_getElem_cons h]; rfl
theorem rest_ne {ls : List (List Evt)} {p : Nat → Nat} {i : Nat} (hi : i < ls.length) : nth (restE ls p) i ≠ [] ↔ p i < (nth ls i).length := by
 rw [nth_rest hi, ne_eq, List.drop_eq_nil_iff]; omega
theorem best_lt {r : List (List Evt)} {k b : Nat} (h : bestE r k = some b) : b < k ∧ nth r b ≠ [] := ⟨(best_some h).h, (best_some h).ne⟩
variable {K : Value → Heap → Prop}
theorem merge_ok (ls : List (List Evt)) {T : Tags} {h : Heap} (w : Wf T h) {v : Value} (x : Sl 1 EvsR h v ls) (hl : ls.length ≤ 1000) (ht : totE ls < 1000000) (hn : ∀ i, (nth ls i).length < 1000000) (hk : ∀ v' h', Ext h h' → Sl 8 EvR (fz T h') v' (mergeE ls) → K v' h') : callM P qndZ #[v] h K := by
  apply qsuZ
  unfold qnDZ
  have hlen := x.len
  simp -implicitDefEqProofs only [hlen, ov_s]
  refine makeSlice_vv unSlInt apInt zcInt (n := ls.length) (by omega) (by omega) (by unfold maxLen; omega) fun ab h1 n1 e1 c1 => ?_
  unfold qoWZ
  have I0 : MgI h ls ab (fun _ => 0) [] (.slice none 0 0) h1 := ⟨e1, by rw [c1, made_one]; rfl, by simpa using Rf.nil e1, by simp [rowOf], by simp [rest_zero], by simp [rest_zero], fun i _ => by omega⟩
  refine loop_on [0, 4] (fun s h' => ∃ p out ov, MgI h ls ab p out ov h' ∧ s 3 = ov) (fun s _ => totE ls + 1 - slen (s 3)) ⟨_, _, _, I0, rfl⟩ ?_
  rintro s h2 hf ⟨p, out, ov, I, s3⟩
  have s0 : s 0 = v := by simpa using hf 0 (by simp)
  have s4 : s 4 = .slice (some ⟨ab, 0, none⟩) ls.length ls.length := by simpa using hf 4 (by simp)
  unfold qoVZ
  rw [seqM_eq]
  unfold qoTZ
  simp -implicitDefEqProofs only [s0, hlen, ov_s]
  refine loop_on [0, 3, 4, 11] (fun s' h' => ∃ i : Nat, h' = h2 ∧ s' 12 = .int .i64 i ∧ i ≤ ls.length ∧ s' 5 = .int .i64 (bestV (bestE (restE ls p) i))) (fun s' _ => (ls.length - num (s' 12)).toNat) ⟨0, rfl, rfl, by omega, rfl⟩ ?_
  rintro r h3 hf3 ⟨i, rfl, r12, hi, r5⟩
  have r0 : r 0 = v := by simpa [s0] using hf3 0 (by simp)
  have r3 : r 3 = ov := by simpa [s3] using hf3 3 (by simp)
  have r4 : r 4 = .slice (some ⟨ab, 0, none⟩) ls.length ls.length := by simpa [s4] using hf3 4 (by simp)
  have r11 : r 11 = .int .i64 ls.length := by simpa using hf3 11 (by simp)
  unfold qoSZ
  simp -implicitDefEqProofs only [r11, r12, bin_lss, ov_s, cd_b]
  refine ⟨fun hc => ?_, fun hc => ?_⟩
  · have hlt : i < ls.length := by have : ((i : Int) < ls.length) := by simpa using hc
                                   omega
    have hw : IntKind.i64.wrap ((i : Int) + 1) = (i + 1 : Nat) := by rw [wrap64_id (by omega) (by omega)]; omega
    obtain ⟨b1, q1, u1, i1, i2, i3⟩ := evs_at x hlt
    have i2 := i2 _ I.e
    have a1 := rngC_cel I.ca hlt
    have j1 := ia_sl (ab := ab) hlt
    have l1 := i3.len
    unfold qoRZ
    rw [seqM_eq]
    unfold qoQZ
    have hrl : ∀ b, b < ls.length → (nth (restE ls p) b ≠ [] ↔ p b < (nth ls b).length) := fun b hb => rest_ne hb
    have hbs : bestE (restE ls p) (i + 1) = match bestE (restE ls p) i with
      | none => if nth (restE ls p) i = [] then none else some i
      | some b => if nth (restE ls p) i ≠ [] ∧ (hdE (nth (restE ls p) i)).seq < (hdE (nth (restE ls p) b)).seq then some i else some b := rfl
    by_cases hp : p i < (nth ls i).length
    rotate_left
    · have hp' : ¬ ((p i : Int) < (nth ls i).length) := by omega
      have hnil : nth (restE ls p) i = [] := by
        rw [nth_rest hlt, List.drop_eq_nil_iff]; omega
      have hbs' : bestE (restE ls p) (i + 1) = bestE (restE ls p) i := by
        rw [hbs]; cases bestE (restE ls p) i <;> simp [hnil]
      simp -implicitDefEqProofs [r12, r4, r0, r5, j1, a1, i1, i2, l1, hp']
      unfold qmiZ
      simp -implicitDefEqProofs [r0, r3, r4, r11, r12, s0, s3, s4, hw, -Int.natCast_add]
      exact ⟨⟨i + 1, rfl, by omega, by rw [hbs']; exact r5⟩, by omega⟩
    have hp' : ((p i : Int) < (nth ls i).length) := by omega
    have hne : nth (restE ls p) i ≠ [] := (hrl i hlt).2 hp
    obtain ⟨f1, g1, t1, _, t2⟩ := ev_seq i3 hp
    have t2 := t2 _ I.e
    cases hb : bestE (restE ls p) i with
    | none =>
      rw [hb] at r5 hbs
      have hbs' : bestE (restE ls p) (i + 1) = some i := by rw [hbs]; simp [hne]
      have r5 : r 5 = .int .i64 (-1) := r5
      simp -implicitDefEqProofs [r12, r4, r0, r5, j1, a1, i1, i2, l1, hp']
      unfold qmhZ
      simp -implicitDefEqProofs [r0, r3, r4, r11, r12, s0, s3, s4, hw, -Int.natCast_add]
      exact ⟨⟨i + 1, rfl, by omega, by rw [hbs']; rfl⟩, by omega⟩
    | some b =>
      rw [hb] at r5 hbs
      obtain ⟨hbi, hbn⟩ := best_lt hb
      have hbl : b < ls.length := by omega
      have hpb : p b < (nth ls b).length := (hrl b hbl).1 hbn
      obtain ⟨b2, q2, u2, k1, k2, k3⟩ := evs_at x hbl
      have k2 := k2 _ I.e
      have a2 := rngC_cel I.ca hbl
      have j2 := ia_sl (ab := ab) hbl
      obtain ⟨f2, g2, t3, _, t4⟩ := ev_seq k3 hpb
      have t4 := t4 _ I.e
      have r5 : r 5 = .int .i64 b := r5
      have hb0 : ¬ ((b : Int) < 0) := by omega
      have hseq : ((hdE (nth (restE ls p) i)).seq < (hdE (nth (restE ls p) b)).seq) ↔ (nth ls i)[p i].seq < (nth ls b)[p b].seq := by
        rw [hd_rest hlt hp, hd_rest hbl hpb]
      by_cases hs : (nth ls i)[p i].seq < (nth ls b)[p b].seq
      · have hbs' : bestE (restE ls p) (i + 1) = some i := by rw [hbs]; simp [hne, hseq.2 hs]
        simp -implicitDefEqProofs [r12, r4, r0, r5, j1, a1, i1, i2, l1, hp', hb0, j2, a2, k1, k2, t1, t2, t3, t4, hs]
        unfold qmhZ
        simp -implicitDefEqProofs [r0, r3, r4, r11, r12, s0, s3, s4, hw, -Int.natCast_add]
        exact ⟨⟨i + 1, rfl, by omega, by rw [hbs']; rfl⟩, by omega⟩
      · have hbs' : bestE (restE ls p) (i + 1) = some b := by rw [hbs]; simp [hne, hseq, hs]
        simp -implicitDefEqProofs [r12, r4, r0, r5, j1, a1, i1, i2, l1, hp', hb0, j2, a2, k1, k2, t1, t2, t3, t4, hs]
        unfold qmiZ
        simp -implicitDefEqProofs [r0, r3, r4, r11, r12, s0, s3, s4, hw, -Int.natCast_add]
        exact ⟨⟨i + 1, rfl, by omega, by rw [hbs']; exact r5⟩, by omega⟩
  · have hie : i = ls.length := by have : ¬ ((i : Int) < ls.length) := by simpa using hc
                                   omega
    subst hie
    have hrr : bestE (restE ls p) ls.length = bestE (restE ls p) (restE ls p).length := by rw [rest_len]
    unfold qoUZ
    cases hb : bestE (restE ls p) ls.length with
    | none =>
      rw [hb] at r5 hrr
      have r5 : r 5 = .int .i64 (-1) := r5
      have hm : mergeE ls = out := by rw [I.m, merge_none hrr.symm, List.append_nil]
      simp -implicitDefEqProofs [r3, r5]
      refine hk _ _ I.e ?_
      rw [hm]
      exact Row.slE (enc := evC) (R := EvR) (fun e => by simp [evC, presC]) (fun _ => rfl) (I.o.row.fz w I.o.new)
    | some b =>
      rw [hb] at r5 hrr
      obtain ⟨hbi, hbn⟩ := best_lt hb
      have hpb : p b < (nth ls b).length := (rest_ne hbi).1 hbn
      obtain ⟨b2, q2, u2, k1, k2, k3⟩ := evs_at x hbi
      have k2 := k2 _ I.e
      have a2 := rngC_cel I.ca hbi
      have j2 := ia_sl (ab := ab) hbi
      obtain ⟨f2, g2, t3, t5, t4⟩ := ev_seq k3 hpb
      have t5 := t5 _ I.e
      have r5 : r 5 = .int .i64 b := r5
      have hb0 : ¬ ((b : Int) < 0) := by omega
      have ld5 : ldV (some (some 8)) (.pointer (some ⟨f2, g2, none⟩)) h3 = some (.agg (evC (nth ls b)[p b]).toArray) := by
        simp -implicitDefEqProofs [ldV, t5]
      simp -implicitDefEqProofs [r3, r5, hb0]
      unfold qnSZ
      simp -implicitDefEqProofs [r0, r5, r4, k1, k2, j2, a2, t3, ld5]
      have htot : totE ls < 1000000 := ht
      have hout : out.length < 1000000 := by have := I.t; omega
      try rw [r3]
      refine app_one (x := .agg (evC (nth ls b)[p b]).toArray) bsEv unSlEv apEv (by omega) (by simp [evC, presC]) (by simp [evC, presC]) I.o.row (by unfold maxLen; omega) (by omega) (by omega) fun a ov' h4 r4' k4 ha => ?_
      have ca4 : h4 ab = some (.cells (rngC ls.length p) qiZ (0, 0)) := k4 _ _ I.ca (Ne.symm I.na)
      have a4 := rngC_cel ca4 hbi
      have hw : IntKind.i64.wrap ((p b : Int) + 1) = (p b + 1 : Nat) := by have := hn b; rw [wrap64_id (by omega) (by omega)]; omega
      have e4 : Ext h h4 := fun k o hk => k4 _ _ (I.e _ _ hk) fun hh => by rw [I.o.new k hh.symm] at hk; cases hk
      have na4 : rowOf ov' ≠ some ab := by
        rcases ha with ha | ⟨j, ha, hj⟩
        · rw [ha]; exact I.na
        · rw [ha]; intro hh; cases hh; rw [I.ca] at hj; cases hj
      have new4 : ∀ g, rowOf ov' = some g → h g = none := fun g hg => by
        rcases ha with ha | ⟨j, ha, hj⟩
        · exact I.o.new g (by rw [← ha]; exact hg)
        · rw [ha] at hg; cases hg; exact fresh_of I.e hj
      unfold qnRZ
      simp -implicitDefEqProofs [r5, r4, j2, a4, hw, -Int.natCast_add]
      rw [stm_at (n := 1) (v := .int .i64 (p b + 1 : Nat)) ca4 rfl (by simp [rngC]; omega) (by simp)]
      have hov : over (rngC ls.length p) b (Value.int .i64 (p b + 1 : Nat)).cells.toList = rngC ls.length (fun i => if i = b then p b + 1 else p i) := by
        simp -implicitDefEqProofs only [cells_i, over]
        unfold rngC
        rw [rng_set]
        congr 2
        funext i
        by_cases hib : i = b
        · simp -implicitDefEqProofs [hib]
        · simp -implicitDefEqProofs [hib]
      rw [hov]
      have hap : h ab = none := fresh_of (Ext.refl h) (by
        cases hh : h ab with
        | none => rfl
        | some o => rw [e1 _ _ hh] at c1; rw [n1] at hh; cases hh)
      simp -implicitDefEqProofs [s0, s4, r0, r4, -Int.natCast_add]
      refine ⟨⟨fun i => if i = b then p b + 1 else p i, out ++ [(nth ls b)[p b]], ⟨ext_upd hap e4, upd_same' _ _ _, ?_, na4, ?_, ?_, fun i hi => ?_⟩⟩, ?_⟩
      · refine ⟨ext_upd hap e4, ?_, new4, ?_⟩
        · have : Row 8 qrZ h4 ov' (out ++ [(nth ls b)[p b]]).length ((out ++ [(nth ls b)[p b]]).flatMap evC) := by simpa using r4'
          exact this.of_at fun g hg => upd_ne fun hh => na4 (by rw [hg, hh])
        · intro u hu
          obtain ⟨e, _, hu⟩ := List.mem_flatMap.1 hu
          simp -implicitDefEqProofs [evC, presC] at hu
          rcases hu with rfl | rfl | rfl | rfl | rfl | rfl | rfl | rfl <;> rfl
      · rw [I.m, merge_some hrr.symm, rest_set hbi, hd_rest hbi hpb, List.append_assoc]; rfl
      · have h1 := I.t
        have h2 := tot_set (r := restE ls p) (b := b) (by rw [rest_len]; exact hbi) hbn
        rw [rest_set hbi] at h2
        simp; omega
      · show (if i = b then p b + 1 else p i) ≤ _
        split
        · rename_i hib; subst hib; omega
        · exact I.le i hi
      · have h1 := row_slen r4'
        have h2 := row_slen I.o.row
        have h3 := I.t
        have h4 : 0 < totE (restE ls p) := by
          rcases Nat.eq_zero_or_pos (totE (restE ls p)) with h | h
          · exact absurd (tot_zero.1 h b) hbn
          · exact h
        rw [s3, h1, h2]; omega
end Go.Proofs.YtcnphhhcknhhaaaGreat
namespace Go.Proofs.YtcnphhhcknhhaaaGreat
open Go Go.Den Go.MapKept
set_option linter.unusedSimpArgs false
set_option linter.unusedVariables false
set_option maxRecDepth 20000
def U3p (g gh gm t : Tag) : Prop := pre g t ∨ pre gh t ∨ pre gm t
variable {K : Value → Heap → Prop}
theorem hplain_run {T : Tags} {h : Heap} {fv hv : Value} {f : FuncId} {cap : Array Value} (x : PlB (fz T h) fv f cap) (hg : gd f = true) (hd : callM P f (#[hv] ++ cap) h fun _ h' => K (.bool false) h') :
  nxM P (do let d ← Deferred.ofValue fv #[hv]; invoke d.target d.args) h K := by
 obtain ⟨b, rfl, hb⟩ := x
 refine nx_fn good (by kernel_rfl) ?_
 show callM P qdeZ #[hv, ptr b] h K
 apply qpHZ
 unfold qgxZ
 have cb := (fz_get hb).1
 simp -implicitDefEqProofs [ld_at cb, cel_of cb, stm_at cb, stm_upd, ld_same, cel_same, over]
 exact nx_fn good hg hd
section
variable {T : Tags} {h : Heap} {g gh gm : Tag} {q mq al hp k : Nat} {p : HP} {m : Mine} {H : Hall} {K : Value → Heap → Prop}
theorem evl_nil {n : Int} (hi : HPI p) (he : p.enabled H = true) (h : p.poll = false ∨ p.at_ + 1 < p.steps) : (if (p.stp m H n).1.done then (p.stp m H n).1.rep.evs else []) = [] := by
 have hst : p.step m H n = p.stp m H n := by simp [HP.step, he]
 have hI := hi.step m H n
 have hat := hstep_at p m H n
 have hk := hstep_k p m H n
 rw [hst] at hI hat hk
 rw [if_pos he] at hat
 rcases h with h | h
 ·have hpo : (p.stp m H n).1.poll = p.poll := by simp only [HP.poll, HP.one, hk.2.1]
  rw [hI.ne (by rw [hpo]; exact h)]
  split <;> rfl
 ·have : (p.stp m H n).1.done = false := by
   have hs : (p.stp m H n).1.steps = p.steps := by unfold HP.steps HP.one; rw [hk.2.1, hk.2.2.1]
   simp -implicitDefEqProofs [HP.done, hs, hat]; omega
  rw [this]; rfl
def ActK (T : Tags) (h : Heap) (g gh gm : Tag) (q mq al hp : Nat) (p : HP) (m : Mine) (H : Hall) (n : Int) (av : Value) (fv : Nat → Value) (K : Value → Heap → Prop) : Prop :=
 ∀ T' h' ev' cv', Only (U3p g gh gm) T h T' h' → HPX T' h' g q mq al p.steps { (p.stp m H n).1 with at_ := p.at_, placed := p.placed } av ev' fv cv' (if (p.stp m H n).1.done then (p.stp m H n).1.rep.evs else []) →
  HallR T' h' gh hp (p.stp m H n).2.2 → MineR T' h' gm mq (p.stp m H n).2.1 → K (.bool p.places) h'
theorem he_bad {n : Int} (w : Wf T h) (gg : Gd g) (d1 : Off (pre g) gh) (d2 : Off (pre g) gm) {av ev : Value} {fv cv : Nat → Value} (x : HPX T h g q mq al p.steps p av ev fv cv []) (y : HallR T h gh hp H) (z : MineR T h gm mq m) (hi : HPI p) (he : p.enabled H = true) (hb : badB p.x = true)
  (hk : ActK T h g gh gm q mq al hp p m H n av fv K) : nxM P (do let d ← Deferred.ofValue (fv p.at_) #[ptr hp]; invoke d.target d.args) h K := by
 have hlt := HP.lt_of_en he
 have a := x.fn _ hlt
 have hone : p.one = true := by simp [HP.one, hb]
 have hpo : p.poll = false := by simp [HP.poll, hone]
 have hkd : p.kd p.at_ = .bad := by simp [HP.kd, hb]
 rw [hkd] at a
 obtain ⟨b, hf, hB⟩ := a
 rw [hf]
 refine nx_fn good (by kernel_rfl) ?_
 show callM P qhRZ #[ptr hp, ptr b] h K
 apply qsmZ
 unfold qniZ
 have cb := (fz_get hB).1
 have cp := x.hp
 simp -implicitDefEqProofs only [hpC] at cp
 have hpl : p.places = true := by simp [HP.places, hone]
 have hs : p.stp m H n = ({ p with at_ := 1, placed := n, rep := { p.rep with err := 1 } }, m, H) := by simp [HP.stp, hb]
 obtain ⟨o3, x3⟩ := x.st (p' := { p with rep := { p.rep with err := 1 } }) (ev' := ev) w (c := _) rfl rfl rfl rfl rfl rfl x.ev
 have hE := evl_nil (m := m) (n := n) hi he (.inl hpo)
 unfold ActK at hk
 rw [hE, hs] at hk
 simp -implicitDefEqProofs only [hpC] at o3 x3
 simp -implicitDefEqProofs [ld_at cb, cel_of cb, stm_at cb, ld_at cp, cel_of cp, stm_at cp, stm_upd, ld_same, cel_same, over]
 rw [hpl] at hk
 refine hk T _ ev cv (o3.mono fun _ hh => .inl (eq_pre hh)) x3 (y.up o3 (fun t ht hh => d1 t ht (eq_pre hh)) (by simp)) (z.kp o3.k (fun t ht hh => d2 t ht (eq_pre hh)))
theorem he_shut {n : Int} (w : Wf T h) (gg : Gd g) (ggh : Gd gh) (d1 : Off (pre g) gh) (d2 : Off (pre g) gm) (d3 : Off (pre gh) g) (d4 : Off (pre gh) gm) {av ev : Value} {fv cv : Nat → Value} (x : HPX T h g q mq al p.steps p av ev fv cv []) (y : HallR T h gh hp H) (z : MineR T h gm mq m) (hi : HPI p) (he : p.enabled H = true) (hb : badB p.x = false) (h9 : p.x.kind = 9)
  (hl : H.acts.length < 1000000) (hk : ActK T h g gh gm q mq al hp p m H n av fv K) : nxM P (do let d ← Deferred.ofValue (fv p.at_) #[ptr hp]; invoke d.target d.args) h K := by
 have hlt := HP.lt_of_en he
 have a := x.fn _ hlt
 have hone : p.one = true := by simp [HP.one, h9]
 have hpo : p.poll = false := by simp [HP.poll, hone]
 have hkd : p.kd p.at_ = .shut := by simp [HP.kd, hb, h9]
 rw [hkd] at a
 obtain ⟨b1, b2, hf, hB1, hB2⟩ := a
 rw [hf]
 refine nx_fn good (by kernel_rfl) ?_
 show callM P qhSZ #[ptr hp, ptr b1, ptr b2] h K
 apply qsnZ
 unfold qnjZ
 have cb := (fz_get hB1).1
 have hpl : p.places = true := by simp [HP.places, hone]
 have hs : p.stp m H n = ({ p with at_ := 1, placed := n, rep := if H.t.closed then { p.rep with err := 5 } else p.rep }, m, H.shut p.who) := by simp [HP.stp, hb, h9]
 have hE := evl_nil (m := m) (n := n) hi he (.inl hpo)
 unfold ActK at hk
 rw [hE, hs, hpl] at hk
 rw [seqM_eq]
 unfold qnWZ
 simp -implicitDefEqProofs [ld_at cb, cel_of cb, stm_at cb, stm_upd, ld_same, cel_same, over]
 refine hshut_ok p.who w ggh y hl fun T2 h2 o2 y2 => ?_
 have x2 := x.kp o2.k d3 ggh.nil
 have z2 := z.kp o2.k d4
 have cb2 := (o2.see (fz_get hB2) ggh.nil).1
 have cp := x2.hp
 simp -implicitDefEqProofs only [hpC] at cp
 unfold qnVZ
 cases hcl : H.t.closed with
 | false =>
  rw [hcl] at hk
  simp -implicitDefEqProofs
  exact hk T2 h2 ev cv (o2.mono fun _ hh => .inr (.inl hh)) x2 y2 z2
 | true =>
  rw [hcl] at hk
  simp -implicitDefEqProofs
  unfold qnUZ
  obtain ⟨o3, x3⟩ := x2.st (p' := { p with rep := { p.rep with err := 5 } }) (ev' := ev) o2.wf (c := _) rfl rfl rfl rfl rfl rfl x2.ev
  simp -implicitDefEqProofs only [hpC] at o3 x3
  simp -implicitDefEqProofs [ld_at cb2, cel_of cb2, stm_at cb2, ld_at cp, cel_of cp, stm_at cp, stm_upd, ld_same, cel_same, over]
  exact hk T2 _ ev cv ((o2.mono fun _ hh => .inr (.inl hh)).trans (o3.mono fun _ hh => .inl (eq_pre hh))) x3 (y2.up o3 (fun t ht hh => d1 t ht (eq_pre hh)) (by simp)) (z2.kp o3.k (fun t ht hh => d2 t ht (eq_pre hh)))
theorem he_lock {s : Nat} {n : Int} (w : Wf T h) (ggh : Gd gh) (d3 : Off (pre gh) g) (d4 : Off (pre gh) gm) {av ev : Value} {fv cv : Nat → Value} (x : HPX T h g q mq al p.steps p av ev fv cv []) (y : HallR T h gh hp H) (z : MineR T h gm mq m) (hi : HPI p) (he : p.enabled H = true) (hkd : p.kd p.at_ = .lock s) (hsn : s < H.n) (h8 : H.n ≤ 8) (hl : H.acts.length < 1000000) (hw : -1 ≤ p.who ∧ p.who ≤ 900)
  (hs : p.stp m H n = ({ p with at_ := p.at_ + 1 }, m, H.lock p.who s)) (hend : p.poll = false ∨ p.at_ + 1 < p.steps) (hpl : p.places = false)
  (hk : ActK T h g gh gm q mq al hp p m H n av fv K) : nxM P (do let d ← Deferred.ofValue (fv p.at_) #[ptr hp]; invoke d.target d.args) h K := by
 have hlt := HP.lt_of_en he
 have a := x.fn _ hlt
 rw [hkd] at a
 obtain ⟨b1, b2, hf, hB1, hB2⟩ := a
 rw [hf]
 refine nx_fn good (by kernel_rfl) ?_
 show callM P qcAZ #[ptr hp, ptr b1, ptr b2] h K
 apply qpoZ
 unfold qfuZ
 have c1 := (fz_get hB1).1
 have c2 := (fz_get hB2).1
 have hE := evl_nil (m := m) (n := n) hi he hend
 unfold ActK at hk
 rw [hE, hs, hpl] at hk
 simp -implicitDefEqProofs [ld_at c1, cel_of c1, stm_at c1, ld_at c2, cel_of c2, stm_at c2, stm_upd, ld_same, cel_same, over]
 refine lock_ok p.who w ggh y hsn h8 hl (by omega) fun T2 h2 o2 y2 => ?_
 exact hk T2 h2 ev cv (o2.mono fun _ hh => .inr (.inl hh)) (x.kp o2.k d3 ggh.nil) y2 (z.kp o2.k d4)
theorem he_look {n : Int} (w : Wf T h) (gg : Gd g) (ggh : Gd gh) (d1 : Off (pre g) gh) (d2 : Off (pre g) gm) (d3 : Off (pre gh) g) (d4 : Off (pre gh) gm) {av ev : Value} {fv cv : Nat → Value} (x : HPX T h g q mq al p.steps p av ev fv cv []) (y : HallR T h gh hp H) (z : MineR T h gm mq m) (hi : HPI p) (he : p.enabled H = true) (hkd : p.kd p.at_ = .look) (hl : H.acts.length < 1000000)
  (hs : p.stp m H n = ({ p with at_ := p.at_ + 1, t := H.t, placed := n }, m, H.look p.who)) (hend : p.poll = false ∨ p.at_ + 1 < p.steps) (hpl : p.places = true)
  (hk : ActK T h g gh gm q mq al hp p m H n av fv K) : nxM P (do let d ← Deferred.ofValue (fv p.at_) #[ptr hp]; invoke d.target d.args) h K := by
 have hlt := HP.lt_of_en he
 have a := x.fn _ hlt
 rw [hkd] at a
 obtain ⟨b1, b2, hf, hB1, hB2⟩ := a
 rw [hf]
 refine nx_fn good (by kernel_rfl) ?_
 show callM P qdAZ #[ptr hp, ptr b1, ptr b2] h K
 apply qqoZ
 unfold qhdZ
 have c1 := (fz_get hB1).1
 have c2 := (fz_get hB2).1
 have hE := evl_nil (m := m) (n := n) hi he hend
 unfold ActK at hk
 rw [hE, hs, hpl] at hk
 simp -implicitDefEqProofs [ld_at c1, cel_of c1, stm_at c1, ld_at c2, cel_of c2, stm_at c2, stm_upd, ld_same, cel_same, over]
 refine look_ok p.who w ggh y hl fun T2 h2 o2 y2 => ?_
 have x2 := x.kp o2.k d3 ggh.nil
 have z2 := z.kp o2.k d4
 have c2 := (o2.see (fz_get hB2) ggh.nil).1
 have cp := x2.hp
 simp -implicitDefEqProofs only [hpC] at cp
 obtain ⟨o3, x3⟩ := x2.st (p' := { p with t := H.t }) (ev' := ev) o2.wf (c := _) rfl rfl rfl rfl rfl rfl x2.ev
 simp -implicitDefEqProofs only [hpC] at o3 x3
 simp -implicitDefEqProofs only [tmC]
 simp -implicitDefEqProofs [ld_at c2, cel_of c2, stm_at c2, ld_at cp, cel_of cp, stm_at cp, stm_upd, ld_same, cel_same, over]
 exact hk T2 _ ev cv ((o2.mono fun _ hh => .inr (.inl hh)).trans (o3.mono fun _ hh => .inl (eq_pre hh))) x3 (y2.up o3 (fun t ht hh => d1 t ht (eq_pre hh)) (by simp)) (z2.kp o3.k (fun t ht hh => d2 t ht (eq_pre hh)))
theorem he_unl {s : Nat} {n : Int} (w : Wf T h) (ggh : Gd gh) (d3 : Off (pre gh) g) (d4 : Off (pre gh) gm) {av ev : Value} {fv cv : Nat → Value} (x : HPX T h g q mq al p.steps p av ev fv cv []) (y : HallR T h gh hp H) (z : MineR T h gm mq m) (hi : HPI p) (he : p.enabled H = true) (hkd : p.kd p.at_ = .unl s) (hsn : s < H.n) (h8 : H.n ≤ 8) (hl : H.acts.length < 1000000) (hw : 0 ≤ (H.ss s).who ∧ (H.ss s).who ≤ 1000)
  (hs : p.stp m H n = ({ p with at_ := p.at_ + 1 }, m, H.unlock p.who s)) (hend : p.poll = false ∨ p.at_ + 1 < p.steps) (hpl : p.places = false)
  (hk : ActK T h g gh gm q mq al hp p m H n av fv K) : nxM P (do let d ← Deferred.ofValue (fv p.at_) #[ptr hp]; invoke d.target d.args) h K := by
 have hlt := HP.lt_of_en he
 have a := x.fn _ hlt
 rw [hkd] at a
 obtain ⟨b1, b2, pl, hB1, hB2⟩ := a
 refine hplain_run pl (by kernel_rfl) ?_
 show callM P qddZ #[ptr hp, ptr b1, ptr b2] h _
 apply qpDZ
 unfold qgvZ
 have c1 := (fz_get hB1).1
 have c2 := (fz_get hB2).1
 have hE := evl_nil (m := m) (n := n) hi he hend
 unfold ActK at hk
 rw [hE, hs, hpl] at hk
 simp -implicitDefEqProofs [ld_at c1, cel_of c1, stm_at c1, ld_at c2, cel_of c2, stm_at c2, stm_upd, ld_same, cel_same, over]
 refine unlock_ok p.who w ggh y hsn h8 hl (by omega) fun T2 h2 o2 y2 => ?_
 exact hk T2 h2 ev cv (o2.mono fun _ hh => .inr (.inl hh)) (x.kp o2.k d3 ggh.nil) y2 (z.kp o2.k d4)
end
end Go.Proofs.YtcnphhhcknhhaaaGreat
namespace Go.Proofs.YtcnphhhcknhhaaaGreat
open Go Go.Den Go.MapKept
set_option linter.unusedSimpArgs false
set_option linter.unusedVariables false
set_option maxRecDepth 20000
section
variable {T : Tags} {h : Heap} {g gh gm : Tag} {q mq al hp k : Nat} {p : HP} {m : Mine} {H : Hall} {K : Value → Heap → Prop}
theorem he_wat {n : Int} (w : Wf T h) (gg : Gd g) (ggh : Gd gh) (ggm : Gd gm) (d1 : Off (pre g) gh) (d2 : Off (pre g) gm) (d3 : Off (pre gh) g) (d4 : Off (pre gh) gm) (d5 : Off (pre gm) g) (d6 : Off (pre gm) gh) {av ev : Value} {fv cv : Nat → Value} (x : HPX T h g q mq al p.steps p av ev fv cv []) (y : HallR T h gh hp H) (z : MineR T h gm mq m) (hi : HPI p) (he : p.enabled H = true) (hkd : p.kd p.at_ = .wat) (hs0 : HS k H) (hk0 : k < 100000) (hsn : p.s < H.n) (hu : p.x.user.size ≤ maxLen) (hb : badB p.x = false) (h9 : p.x.kind ≠ 9) (h8 : p.x.kind ≠ 8) (hat : p.at_ = 2)
  (hk : ActK T h g gh gm q mq al hp p m H n av fv K) : nxM P (do let d ← Deferred.ofValue (fv p.at_) #[ptr hp]; invoke d.target d.args) h K := by
 have hlt := HP.lt_of_en he
 have a := x.fn _ hlt
 rw [hkd] at a
 have hone : p.one = false := by simp [HP.one, hb, h9]
 have hpo : p.poll = false := by simp [HP.poll, h8]
 have hpl : p.places = false := by simp [HP.places, hone, h8, hat]
 obtain ⟨b1, b2, b3, b4, b5, b6, uv, pl, hB1, hB2, hB3, hB4, hB5, hB6⟩ := a
 refine hplain_run pl (by kernel_rfl) ?_
 show callM P qdcZ #[ptr hp, ptr b1, ptr b2, ptr b3, ptr b4, ptr b5, ptr b6] h _
 apply qpCZ
 unfold qguZ
 have hE := evl_nil (m := m) (n := n) hi he (.inl hpo)
 unfold ActK at hk
 have hst : p.stp m H n = p.stpW m H n := by simp [HP.stp, hb, h9, h8]
 rw [hE, hst, hpl] at hk
 have c1 := (fz_get hB1).1
 have c2 := (fz_get hB2).1
 have c3 := (fz_get hB3).1
 have c4 := (fz_get hB4).1
 have c5 := (fz_get hB5).1
 have c6 := (fz_get hB6).1
 have cp := x.hp
 simp -implicitDefEqProofs only [hpC] at cp
 have u4 : cel h b4 1 = some (.string p.x.user) := by simp [cel_of c4, opC]
 -- an error is told
 have err : ∀ e : Int, p.stpW m H n = ({ p with at_ := 3, rep := { p.rep with err := e } }, m, H) → K (.bool false) (upd h q (.cells (hpC { p with rep := { p.rep with err := e } } av ev).toArray qazZ (0, 0))) := by
  intro e hs
  rw [hs] at hk
  obtain ⟨o3, x3⟩ := x.st (p' := { p with rep := { p.rep with err := e } }) (ev' := ev) w (c := _) rfl rfl rfl rfl rfl rfl x.ev
  exact hk T _ ev cv (o3.mono fun _ hh => .inl (eq_pre hh)) x3 (y.up o3 (fun t ht hh => d1 t ht (eq_pre hh)) (by simp)) (z.kp o3.k (fun t ht hh => d2 t ht (eq_pre hh)))
 simp -implicitDefEqProofs only [hpC] at err
 simp -implicitDefEqProofs [ld_at c1, cel_of c1, stm_at c1, ld_at cp, cel_of cp, stm_at cp, stm_upd, ld_same, cel_same, over]
 cases hcl : p.t.closed with
 | true =>
  have hs : p.stpW m H n = ({ p with at_ := 3, rep := { p.rep with err := 5 } }, m, H) := by simp [HP.stpW, hat, hcl]
  simp -implicitDefEqProofs
  unfold qiZZ
  simp -implicitDefEqProofs [ld_at c1, cel_of c1, stm_at c1, ld_at cp, cel_of cp, stm_at cp, stm_upd, ld_same, cel_same, over, hcl]
  have := err 5 hs
  simpa [hcl] using this
 | false =>
  simp -implicitDefEqProofs
  unfold qjcZ
  -- it is let
  have ok : ∀ (h2 : Heap) (on : Bool), on = decide (p.x.kind = 6) → Ext h h2 → p.stpW m H n = ({ p with at_ := 3 }, miset m p.x.user (decide (p.x.kind = 6)), H.watch p.who p.s p.x.user (decide (p.x.kind = 6))) → qfcZ (ptr b5) h2 (ptr b6) (ptr b4) (ptr b2) (ptr hp) (ptr b3) (fun _ h' => K (.bool false) h') := by
   intro h2 on hon e2 hs
   rw [hs] at hk
   have o2 : Only non T h T h2 := Only.of_ext w e2
   have x2 := x.kp o2.k (Off.non _) (not_non _)
   have y2 := y.up o2 (Off.non _) (not_non _)
   have z2 := z.kp o2.k (Off.non _)
   have c5 := e2 _ _ c5
   have c6 := e2 _ _ c6
   have c2 := e2 _ _ c2
   have u4 : cel h2 b4 1 = some (.string p.x.user) := by simp [cel_of (e2 _ _ c4), opC]
   unfold qfcZ
   simp -implicitDefEqProofs [ld_at c5, cel_of c5, stm_at c5, ld_at c6, cel_of c6, stm_at c6, ld_at c2, cel_of c2, stm_at c2, stm_upd, ld_same, cel_same, over, u4]
   refine hwatch_ok p.who p.x.user hu _ o2.wf ggh y2 hsn hs0 hk0 fun T3 h3 o3 y3 => ?_
   have x3 := x2.kp o3.k d3 ggh.nil
   have z3 := z2.kp o3.k d4
   have F : ∀ {b o}, fz T h b = some o → h3 b = some o := fun {b o} hh => (o3.see (o2.see (fz_get hh) (not_non _)) ggh.nil).1
   have c3 := F hB3
   have c2 := F hB2
   have u4 : cel h3 b4 1 = some (.string p.x.user) := by simp [cel_of (F hB4), opC]
   unfold qjbZ
   simp -implicitDefEqProofs [ld_at c3, cel_of c3, stm_at c3, ld_at c2, cel_of c2, stm_at c2, stm_upd, ld_same, cel_same, over, u4]
   refine mset_ok o3.wf ggm z3 p.x.user _ fun h4 o4 z4 => ?_
   exact hk T3 h4 ev cv (((o2.mono non_up).trans (o3.mono fun _ hh => .inr (.inl hh))).trans (o4.mono fun _ hh => .inr (.inr hh))) (x3.kp o4.k d5 ggm.nil) (y3.up o4 d6 ggm.nil) z4
  by_cases h6 : p.x.kind = 6
  rotate_left
  ·have hs : p.stpW m H n = ({ p with at_ := 3 }, miset m p.x.user (decide (p.x.kind = 6)), H.watch p.who p.s p.x.user (decide (p.x.kind = 6))) := by simp [HP.stpW, hat, hcl, h6]
   simp -implicitDefEqProofs [ld_at c2, cel_of c2, stm_at c2, stm_upd, ld_same, cel_same, over, h6]
   exact ok h _ rfl (Ext.refl h) hs
  simp -implicitDefEqProofs [ld_at c2, cel_of c2, stm_at c2, ld_at c3, cel_of c3, stm_at c3, stm_upd, ld_same, cel_same, over, h6, u4]
  refine mhas_ok z p.x.user ?_
  cases hm : mhas m p.x.user with
  | true =>
   have hs : p.stpW m H n = ({ p with at_ := 3 }, miset m p.x.user (decide (p.x.kind = 6)), H.watch p.who p.s p.x.user (decide (p.x.kind = 6))) := by simp [HP.stpW, hat, hcl, h6, hm]
   simp -implicitDefEqProofs
   exact ok h _ rfl (Ext.refl h) hs
  | false =>
   simp -implicitDefEqProofs [ld_at c3, cel_of c3, stm_at c3, stm_upd, ld_same, cel_same, over]
   refine mcount_ok z ?_
   try simp
   refine config_ok y fun h2 e2 => ?_
   simp -implicitDefEqProofs [fdV, cfgC]
   refine ⟨fun hc => ?_, fun hc => ?_⟩
   ·have hs : p.stpW m H n = ({ p with at_ := 3, rep := { p.rep with err := 4 } }, m, H) := by simp [HP.stpW, hat, hcl, h6, hm, hc]
    rw [hs] at hk
    have o2 : Only non T h T h2 := Only.of_ext w e2
    have x2 := x.kp o2.k (Off.non _) (not_non _)
    have y2 := y.up o2 (Off.non _) (not_non _)
    have z2 := z.kp o2.k (Off.non _)
    have c1 := e2 _ _ c1
    have cp := x2.hp
    simp -implicitDefEqProofs only [hpC] at cp
    unfold qjaZ
    obtain ⟨o3, x3⟩ := x2.st (p' := { p with rep := { p.rep with err := 4 } }) (ev' := ev) o2.wf (c := _) rfl rfl rfl rfl rfl rfl x2.ev
    simp -implicitDefEqProofs only [hpC] at o3 x3
    simp -implicitDefEqProofs [ld_at c1, cel_of c1, stm_at c1, ld_at cp, cel_of cp, stm_at cp, stm_upd, ld_same, cel_same, over]
    exact hk T _ ev cv ((o2.mono non_up).trans (o3.mono fun _ hh => .inl (eq_pre hh))) x3 (y2.up o3 (fun t ht hh => d1 t ht (eq_pre hh)) (by simp)) (z2.kp o3.k (fun t ht hh => d2 t ht (eq_pre hh)))
   ·have hs : p.stpW m H n = ({ p with at_ := 3 }, miset m p.x.user (decide (p.x.kind = 6)), H.watch p.who p.s p.x.user (decide (p.x.kind = 6))) := by
     have hc' : ¬ H.c.watches ≤ (m.length : Int) := by omega
     simp -implicitDefEqProofs [HP.stpW, hat, hcl, h6, hm, hc']
    exact ok h2 _ rfl e2 hs
end
end Go.Proofs.YtcnphhhcknhhaaaGreat
namespace Go.Proofs.YtcnphhhcknhhaaaGreat
open Go Go.Den Go.MapKept
set_option linter.unusedSimpArgs false
set_option linter.unusedVariables false
set_option maxRecDepth 20000
section
variable {T : Tags} {h : Heap} {g gh gm : Tag} {q mq al hp k : Nat} {p : HP} {m : Mine} {H : Hall} {K : Value → Heap → Prop}
theorem HPX.same {n : Nat} {p' : HP} {av ev : Value} {fv cv : Nat → Value} {evl : List Evt} (x : HPX T h g q mq al n p av ev fv cv evl) (h0 : hpC p' av ev = hpC p av ev) (h1 : p'.who = p.who) (h2 : p'.x = p.x) (h3 : p'.k = p.k) (h4 : p'.s = p.s) (h5 : p'.all = p.all) : HPX T h g q mq al n p' av ev fv cv evl := by
 have hpo : p'.poll = p.poll := by simp only [HP.poll, HP.one, h2]
 refine ⟨by rw [h0]; exact x.hp, x.tp, ?_, fun j hj => ?_, fun hp => ?_, fun hp i hi => ?_, x.ev⟩
 ·have : (seqF n fun j => [.int .i64 (p'.kd j).need, fv j]) = seqF n fun j => [.int .i64 (p.kd j).need, fv j] := seqF_congr fun j _ => by rw [HP.kd_congr h2 h3 h4]
  rw [this]; exact x.ac
 ·rw [HP.kd_congr h2 h3 h4]; exact (x.fn j hj).congr h1 h2 h3 h4
 ·rw [hpo] at hp; rw [h3]; exact x.al hp
 ·rw [hpo] at hp; rw [h5]; exact x.av hp i (by omega)
theorem he_drn {n : Int} {s : Nat} (w : Wf T h) (gg : Gd g) (ggh : Gd gh) (d1 : Off (pre g) gh) (d2 : Off (pre g) gm) (d3 : Off (pre gh) g) (d4 : Off (pre gh) gm) {av ev : Value} {fv cv : Nat → Value} (x : HPX T h g q mq al p.steps p av ev fv cv []) (y : HallR T h gh hp H) (z : MineR T h gm mq m) (hi : HPI p) (he : p.enabled H = true) (hkd : p.kd p.at_ = .drn s) (hs0 : HS k H) (hk0 : k < 100000) (hsn : s < H.n) (hpo : p.poll = true) (hsk : s < p.k) (hse : p.all.length = s)
  (hs : p.stp m H n = ({ p with at_ := p.at_ + 1, all := p.all ++ [(H.ss s).feed.told p.who], rep := { p.rep with lost := p.rep.lost || (H.ss s).feed.lost p.who } }, m, H.drain p.who s)) (hend : p.at_ + 1 < p.steps) (hpl : p.places = false)
  (hk : ActK T h g gh gm q mq al hp p m H n av fv K) : nxM P (do let d ← Deferred.ofValue (fv p.at_) #[ptr hp]; invoke d.target d.args) h K := by
 have hlt := HP.lt_of_en he
 have a := x.fn _ hlt
 rw [hkd] at a
 obtain ⟨b1, b2, b3, b4, pl, hB1, hB2, hB3, hB4⟩ := a
 refine hplain_run pl (by kernel_rfl) ?_
 show callM P qdyZ #[ptr hp, ptr b1, ptr b2, ptr b3, ptr b4] h _
 apply qqlZ
 unfold qhaZ
 have hE := evl_nil (m := m) (n := n) hi he (.inr hend)
 unfold ActK at hk
 rw [hE, hs, hpl] at hk
 have c1 := (fz_get hB1).1
 have c2 := (fz_get hB2).1
 simp -implicitDefEqProofs [ld_at c1, cel_of c1, stm_at c1, ld_at c2, cel_of c2, stm_at c2, stm_upd, ld_same, cel_same, over]
 refine hdrain_ok p.who w ggh y hsn hs0 hk0 (fun j hj => by have := ((hs0.st s hsn).fd.qs j hj).2.2; omega) fun T2 h2 v o2 y2 s2 => ?_
 have x2 := x.kp o2.k d3 ggh.nil
 have z2 := z.kp o2.k d4
 have F : ∀ {b o}, fz T h b = some o → h2 b = some o ∧ T2 b = [] := fun {b o} hh => o2.see (fz_get hh) ggh.nil
 have c2 := (F hB2).1
 have c3 := (F hB3).1
 have c4 := (F hB4)
 obtain ⟨ca, ta⟩ := x2.al hpo
 have nqa : q ≠ al := fun e => by subst e; have := x2.hp; rw [ca] at this; injection this with h1; injection h1 with h1 h2; exact absurd h2 (by decide)
 unfold qkiZ
 have vo := s2.one
 have hia := ia_sl (ab := al) hsk
 simp -implicitDefEqProofs only [exV_0, exV_1, ov_s]
 simp -implicitDefEqProofs [ld_at c2, cel_of c2, stm_at c2, ld_at c3, cel_of c3, stm_at c3, stm_upd, ld_same, cel_same, over, hia]
 rw [stm_at (n := 1) (v := v) ca (by simp [vo.2]) (by simp; omega) (by simp [vo.1, vo.2])]
 have hov : over ((List.range p.k).map cv).toArray s v.cells.toList = ((List.range p.k).map fun i => if i = s then v else cv i).toArray := by
  rw [vo.2]; simp only [over]; exact rng_set _ _ _ _
 rw [hov]
 have o3 : Only (fun t => t = g ++ [2]) T2 h2 T2 (upd h2 al (.cells ((List.range p.k).map fun i => if i = s then v else cv i).toArray qnZ (0, 0))) := Only.upd o2.wf ca ta
 have c4' := (o3.see c4 (by simp)).1
 have b3 := o3.k.at x2.hp x2.tp (by simp)
 have cp := b3.1
 simp -implicitDefEqProofs only [hpC] at cp
 have uu : ¬ (fun t => t = g ++ [2]) ([] : Tag) := by simp
 obtain ⟨h3, hh3⟩ : ∃ h3, h3 = upd h2 al (.cells ((List.range p.k).map fun i => if i = s then v else cv i).toArray qnZ (0, 0)) := ⟨_, rfl⟩
 have ca3 : h3 al = some (.cells ((List.range p.k).map fun i => if i = s then v else cv i).toArray qnZ (0, 0)) := by rw [hh3, upd_same']
 rw [← hh3] at o3 b3 cp c4' ⊢
 clear hh3
 have x3 : HPX T2 h3 g q mq al p.steps { p with all := p.all ++ [(H.ss s).feed.told p.who] } av ev fv (fun i => if i = s then v else cv i) [] := by
  refine ⟨b3.1, b3.2, x2.ac.kp o3.k (by simp), fun j hj => (x2.fn j hj).ext (o3.ext uu), fun _ => ⟨ca3, ta⟩, fun _ i hik => ?_, x2.ev.ext (@EvR.ext) (o3.ext uu)⟩
  show Sl 8 EvR (fz T2 h3) (if i = s then v else cv i) ((p.all ++ [(H.ss s).feed.told p.who]).getD i [])
  by_cases his : i = s
  ·subst his
   rw [if_pos rfl]
   have : (p.all ++ [(H.ss i).feed.told p.who]).getD i [] = (H.ss i).feed.told p.who := by
    rw [List.getD_eq_getElem?_getD, List.getElem?_append_right (by omega)]; simp [hse]
   rw [this]; exact s2.ext (@EvR.ext) (o3.ext uu)
  ·rw [if_neg his]
   have : (p.all ++ [(H.ss s).feed.told p.who]).getD i [] = p.all.getD i [] := by
    rw [List.getD_eq_getElem?_getD, List.getD_eq_getElem?_getD]
    by_cases hlt2 : i < p.all.length
    ·rw [List.getElem?_append_left hlt2]
    ·rw [List.getElem?_append_right (by omega)]
     have : ¬ i - p.all.length = 0 := by omega
     rw [List.getElem?_eq_none (l := p.all) (by omega)]
     rw [List.getElem?_eq_none (by simp; omega)]
   rw [this]; exact (x2.av hpo i hik).ext (@EvR.ext) (o3.ext uu)
 have oo : Only (U3p g gh gm) T h T2 h3 := (o2.mono fun _ hh => .inr (.inl hh)).trans (o3.mono fun _ hh => .inl (eq_pre hh))
 have y3 := y2.up o3 (fun t ht hh => d1 t ht (eq_pre hh)) (by simp)
 have z3 := z2.kp o3.k (fun t ht hh => d2 t ht (eq_pre hh))
 obtain ⟨o4, x4⟩ := x3.st (p' := { p with all := p.all ++ [(H.ss s).feed.told p.who], rep := { p.rep with lost := p.rep.lost || (H.ss s).feed.lost p.who } }) (ev' := ev) o3.wf (c := _) rfl rfl rfl rfl rfl rfl x3.ev
 have K4 := hk T2 _ ev _ (oo.trans (o4.mono fun _ hh => .inl (eq_pre hh))) x4 (y3.up o4 (fun t ht hh => d1 t ht (eq_pre hh)) (by simp)) (z3.kp o4.k (fun t ht hh => d2 t ht (eq_pre hh)))
 simp -implicitDefEqProofs only [hpC] at K4
 cases hlo : p.rep.lost with
 | true =>
  rw [hlo] at cp K4
  simp -implicitDefEqProofs [ld_at c4', cel_of c4', stm_at c4', ld_at cp, cel_of cp, stm_at cp, stm_upd, ld_same, cel_same, over]
  simpa using K4
 | false =>
  rw [hlo] at cp K4
  simp -implicitDefEqProofs [ld_at c4', cel_of c4', stm_at c4', ld_at cp, cel_of cp, stm_at cp, stm_upd, ld_same, cel_same, over]
  simpa using K4
theorem he_pun {n : Int} {s : Nat} (w : Wf T h) (gg : Gd g) (ggh : Gd gh) (d1 : Off (pre g) gh) (d2 : Off (pre g) gm) (d3 : Off (pre gh) g) (d4 : Off (pre gh) gm) {av ev : Value} {fv cv : Nat → Value} (x : HPX T h g q mq al p.steps p av ev fv cv []) (y : HallR T h gh hp H) (z : MineR T h gm mq m) (hi : HPI p) (he : p.enabled H = true) (hkd : p.kd p.at_ = .pun s) (hsn : s < H.n) (h8 : H.n ≤ 8) (hl : H.acts.length < 1000000) (hw : 0 ≤ (H.ss s).who ∧ (H.ss s).who ≤ 1000) (hpo : p.poll = true) (hsk : s < p.k) (hkn : p.k = H.n) (hse : p.all.length = p.k) (hl16 : ∀ l ∈ p.all, l.length ≤ 16)
  (hs : p.stp m H n = ({ p with at_ := p.at_ + 1, rep := { p.rep with evs := mergeE p.all } }, m, H.unlock p.who s)) (hst : p.steps = 3 * p.k + 1) (hat : p.at_ = 2 * p.k + 1 + s) (hpl : p.places = false)
  (hk : ActK T h g gh gm q mq al hp p m H n av fv K) : nxM P (do let d ← Deferred.ofValue (fv p.at_) #[ptr hp]; invoke d.target d.args) h K := by
 have hlt := HP.lt_of_en he
 have a := x.fn _ hlt
 rw [hkd] at a
 obtain ⟨b1, b2, b3, b4, b5, pl, hB1, hB2, hB3, hB4, hB5⟩ := a
 refine hplain_run pl (by kernel_rfl) ?_
 show callM P qdzZ #[ptr hp, ptr b1, ptr b2, ptr b3, ptr b4, ptr b5] h _
 apply qqmZ
 unfold qhbZ
 unfold ActK at hk
 rw [hs, hpl] at hk
 have c1 := (fz_get hB1).1
 have c2 := (fz_get hB2).1
 simp -implicitDefEqProofs [ld_at c1, cel_of c1, stm_at c1, ld_at c2, cel_of c2, stm_at c2, stm_upd, ld_same, cel_same, over]
 refine unlock_ok p.who w ggh y hsn h8 hl (by omega) fun T2 h2 o2 y2 => ?_
 have x2 := x.kp o2.k d3 ggh.nil
 have z2 := z.kp o2.k d4
 have F : ∀ {b o}, fz T h b = some o → h2 b = some o ∧ T2 b = [] := fun {b o} hh => o2.see (fz_get hh) ggh.nil
 have c2 := (F hB2).1
 have c3 := (F hB3).1
 have c4 := (F hB4).1
 have c5 := (F hB5).1
 have oo : Only (U3p g gh gm) T h T2 h2 := o2.mono fun _ hh => .inr (.inl hh)
 have hw1 : IntKind.i64.wrap ((p.k : Int) - 1) = (p.k - 1 : Int) := wrap64_id (by omega) (by omega)
 have hdone : ({ p with at_ := p.at_ + 1, rep := { p.rep with evs := mergeE p.all } } : HP).done = decide (s + 1 = p.k) := by
  show decide (p.steps ≤ p.at_ + 1) = _
  rw [hst, hat]
  exact decide_eq_decide.2 (by omega)
 rw [show (({ p with at_ := p.at_ + 1, rep := { p.rep with evs := mergeE p.all } } : HP), m, H.unlock p.who s).1.done = decide (s + 1 = p.k) from hdone] at hk
 unfold qklZ
 simp -implicitDefEqProofs [ld_at c2, cel_of c2, stm_at c2, ld_at c3, cel_of c3, stm_at c3, stm_upd, ld_same, cel_same, over, hw1]
 refine ⟨fun hc => ?_, fun hc => ?_⟩
 ·have hlast : s + 1 = p.k := by omega
  rw [decide_eq_true hlast] at hk
  simp -implicitDefEqProofs only [if_true] at hk
  unfold qkkZ
  simp -implicitDefEqProofs [ld_at c4, cel_of c4, stm_at c4, ld_at c5, cel_of c5, stm_at c5, stm_upd, ld_same, cel_same, over]
  obtain ⟨ca, ta⟩ := x2.al hpo
  have hrow : Row 1 qnZ h2 (.slice (some ⟨al, 0, none⟩) p.k p.k) p.all.length (seqF p.all.length fun i => [cv i]) := by
   refine ⟨?_, .inr ⟨al, p.k, ((List.range p.k).map cv).toArray, by rw [hse], ca, by omega, by unfold maxLen; omega, by simp, ?_⟩⟩
   ·exact seqF_len (sz := 1) fun i _ => rfl
   ·rw [hse]
    have : seqF p.k (fun i => [cv i]) = (List.range p.k).map cv := by
     unfold seqF
     induction (List.range p.k) with
     | nil => rfl
     | cons a l ih => simp only [List.flatMap_cons, List.map_cons, ih]; rfl
    rw [this, Nat.mul_one, List.take_of_length_le (by simp)]
  have hsl : Sl 1 EvsR h2 (.slice (some ⟨al, 0, none⟩) p.k p.k) p.all := by
   refine Row.sl' (fun i _ => rfl) (fun i hi => ⟨cv i, rfl, ?_⟩) hrow
   have := (x2.av hpo i (by omega)).ext (@EvR.ext) (fz_ext T2 h2)
   rw [List.getD_eq_getElem?_getD, List.getElem?_eq_getElem hi] at this
   exact this
  have hn16 : ∀ i, (nth p.all i).length ≤ 16 := fun i => by
   unfold nth
   rw [List.getD_eq_getElem?_getD]
   cases hh : p.all[i]? with
   | none => simp
   | some l => exact hl16 l (List.mem_of_getElem? hh)
  have htot : ∀ l : List (List Evt), (∀ x ∈ l, x.length ≤ 16) → totE l ≤ 16 * l.length := by
   intro l
   induction l with
   | nil => intro _; simp [totE]
   | cons a l ih =>
    intro hh
    have h1 := ih fun x hx => hh x (by simp [hx])
    have h2 := hh a (by simp)
    simp -implicitDefEqProofs [totE] at h1 ⊢; omega
  have ht := htot _ hl16
  refine merge_ok p.all o2.wf hsl (by omega) (by omega) (fun i => by have := hn16 i; omega) fun v' h3 e3 s3 => ?_
  have o3 : Only non T2 h2 T2 h3 := Only.of_ext o2.wf e3
  have x3 := x2.kp o3.k (Off.non _) (not_non _)
  have y3 := y2.up o3 (Off.non _) (not_non _)
  have z3 := z2.kp o3.k (Off.non _)
  have c5 := e3 _ _ c5
  have cp := x3.hp
  simp -implicitDefEqProofs only [hpC] at cp
  have vo := s3.one
  obtain ⟨o4, x4⟩ := x3.st (p' := { p with rep := { p.rep with evs := mergeE p.all } }) (ev' := v') o3.wf (c := _) rfl rfl rfl rfl rfl rfl s3
  have K4 := hk T2 _ v' cv ((oo.up o3 non_up).trans (o4.mono fun _ hh => .inl (eq_pre hh))) x4 (y3.up o4 (fun t ht hh => d1 t ht (eq_pre hh)) (by simp)) (z3.kp o4.k (fun t ht hh => d2 t ht (eq_pre hh)))
  simp -implicitDefEqProofs only [hpC] at K4
  unfold qkjZ
  simp -implicitDefEqProofs [ld_at c5, cel_of c5, stm_at c5, stm_upd, ld_same, cel_same, over]
  rw [stm_at (n := 1) (v := v') cp (by simp [vo.2]) (by simp) (by simp [vo.1, vo.2])]
  simpa [over, vo.2] using K4
 ·have hlast : ¬ s + 1 = p.k := by omega
  rw [decide_eq_false hlast] at hk
  simp -implicitDefEqProofs only [Bool.false_eq_true, if_false] at hk
  exact hk T2 h2 ev cv oo (x2.same rfl rfl rfl rfl rfl rfl) y2 z2
end
end Go.Proofs.YtcnphhhcknhhaaaGreat
namespace Go.Proofs.YtcnphhhcknhhaaaGreat
open Go Go.Den Go.MapKept
set_option linter.unusedSimpArgs false
set_option linter.unusedVariables false
set_option maxRecDepth 20000
theorem stp_placed {p : HP} {m : Mine} {H : Hall} {n : Int} (he : p.enabled H = true) : (p.stp m H n).1.placed = if p.places then n else p.placed := by
 have hlt := HP.lt_of_en he
 unfold HP.stp HP.places
 cases hb : badB p.x with
 | true => simp [HP.one, hb]
 | false =>
  by_cases h9 : p.x.kind = 9
  ·simp -implicitDefEqProofs [HP.one, h9]
  ·have hone : p.one = false := by simp [HP.one, hb, h9]
   by_cases h8 : p.x.kind = 8
   ·simp -implicitDefEqProofs only [hone, h8]
    unfold HP.stpP
    by_cases h1 : p.at_ < p.k
    ·have : ¬ p.at_ = p.k := by omega
     simp -implicitDefEqProofs [h1, this]
    ·by_cases h2 : p.at_ = p.k
     ·simp -implicitDefEqProofs [h2]
     ·by_cases h3 : p.at_ ≤ 2 * p.k <;> simp [h1, h2, h3]
   ·simp -implicitDefEqProofs only [hone, h8, h9]
    unfold HP.stpW
    by_cases h0 : p.at_ = 0
    ·simp -implicitDefEqProofs [h0]
    ·by_cases h1 : p.at_ = 1
     ·simp -implicitDefEqProofs [h1]
     ·by_cases h2 : p.at_ = 2
      ·simp -implicitDefEqProofs [h2]
       split
       ·rfl
       ·split <;> rfl
      ·simp -implicitDefEqProofs [h0, h1, h2]
theorem stp_all16 {p : HP} {m : Mine} {H : Hall} {n : Int} {k : Nat} (hs : HS k H) (hg : HPG H.n p) (he : p.enabled H = true) (h16 : ∀ l ∈ p.all, l.length ≤ 16) : ∀ l ∈ (p.stp m H n).1.all, l.length ≤ 16 := by
 have hlt := HP.lt_of_en he
 unfold HP.stp
 cases hb : badB p.x with
 | true => simpa [hb] using h16
 | false =>
  simp -implicitDefEqProofs only [Bool.false_eq_true, if_false]
  by_cases h9 : p.x.kind = 9
  ·simpa [h9] using h16
  ·simp -implicitDefEqProofs only [h9, if_false]
   by_cases h8 : p.x.kind = 8
   ·simp -implicitDefEqProofs only [h8, if_true]
    unfold HP.stpP
    split
    ·exact h16
    split
    ·exact h16
    split
    ·intro l hl
     have hl : l ∈ p.all ++ [(H.ss (p.at_ - p.k - 1)).feed.told p.who] := hl
     rcases List.mem_append.1 hl with hl | hl
     ·exact h16 l hl
     ·rw [List.mem_singleton] at hl
      subst hl
      unfold Feed.told
      split
      ·rename_i hcl
       have hn : p.at_ - p.k - 1 < H.n := by have := hg.k; omega
       have hj : p.who.toNat < 8 := by simp [clientB] at hcl; omega
       exact ((hs.st _ hn).fd.qs _ hj).2.2
      ·simp -implicitDefEqProofs
    ·exact h16
   ·simp -implicitDefEqProofs only [h8, if_false]
    unfold HP.stpW
    split
    ·exact h16
    split
    ·exact h16
    split
    ·split
     ·exact h16
     split <;> exact h16
    ·exact h16
section
variable {T : Tags} {h : Heap} {g gh gm : Tag} {q mq al hp k : Nat} {p : HP} {m : Mine} {H : Hall} {K : Value → Heap → Prop}
theorem heact_ok {n : Int} (w : Wf T h) (gg : Gd g) (ggh : Gd gh) (ggm : Gd gm) (d1 : Off (pre g) gh) (d2 : Off (pre g) gm) (d3 : Off (pre gh) g) (d4 : Off (pre gh) gm) (d5 : Off (pre gm) g) (d6 : Off (pre gm) gh) {av ev : Value} {fv cv : Nat → Value} (x : HPX T h g q mq al p.steps p av ev fv cv []) (y : HallR T h gh hp H) (z : MineR T h gm mq m) (hi : HPI p) (h16 : ∀ l ∈ p.all, l.length ≤ 16) (he : p.enabled H = true) (hs : HS k H) (hk0 : k < 100000) (hg : HPG H.n p)
  (hk : ActK T h g gh gm q mq al hp p m H n av fv K) : nxM P (do let d ← Deferred.ofValue (fv p.at_) #[ptr hp]; invoke d.target d.args) h K := by
 have hlt := HP.lt_of_en he
 have n8 := hs.n8.2
 have n1 := hs.n8.1
 have ac : H.acts.length < 1000000 := by have := hs.ac; omega
 cases hb : badB p.x with
 | true => exact he_bad w gg d1 d2 x y z hi he hb hk
 | false =>
 by_cases h9 : p.x.kind = 9
 ·exact he_shut w gg ggh d1 d2 d3 d4 x y z hi he hb h9 ac hk
 have hone : p.one = false := by simp [HP.one, hb, h9]
 by_cases h8 : p.x.kind = 8
 ·have hst : p.steps = 3 * p.k + 1 := by simp [HP.steps, hone, h8]
  have hpo : p.poll = true := by simp [HP.poll, hone, h8]
  have hkn := hg.k
  have hk1 : 1 ≤ p.k := by omega
  have hS : p.stp m H n = ((p.stpP H n).1, m, (p.stpP H n).2) := by simp [HP.stp, hb, h9, h8]
  by_cases h1 : p.at_ < p.k
  ·refine he_lock (s := p.at_) w ggh d3 d4 x y z hi he (by simp [HP.kd, hb, h8, h1]) (by have := hg.k; omega) n8 ac hg.w ?_ (.inr (by omega)) ?_ hk
   ·rw [hS]; simp [HP.stpP, h1]
   ·have : ¬ p.at_ = p.k := by omega
    simp -implicitDefEqProofs [HP.places, hone, h8, this]
  by_cases h2 : p.at_ = p.k
  ·refine he_look w gg ggh d1 d2 d3 d4 x y z hi he (by simp [HP.kd, hb, h8, h2]) ac ?_ (.inr (by omega)) ?_ hk
   ·rw [hS]; simp [HP.stpP, h2]
   ·simp -implicitDefEqProofs [HP.places, hone, h8, h2]
  have hpl : p.places = false := by simp [HP.places, hone, h8, h2]
  have la := hi.la hpo
  by_cases h3 : p.at_ ≤ 2 * p.k
  ·refine he_drn (s := p.at_ - p.k - 1) w gg ggh d1 d2 d3 d4 x y z hi he (by simp [HP.kd, hb, h8, h1, h2, h3]) hs hk0 (by omega) hpo (by omega) (by omega) ?_ (by omega) hpl hk
   rw [hS]; simp [HP.stpP, h1, h2, h3]
  ·have hsn : p.at_ - 2 * p.k - 1 < H.n := by omega
   refine he_pun (s := p.at_ - 2 * p.k - 1) w gg ggh d1 d2 d3 d4 x y z hi he (by simp [HP.kd, hb, h8, h1, h2, h3]) hsn n8 ac (hs.st _ hsn).wh hpo (by omega) hkn (by omega) h16 ?_ hst (by omega) hpl hk
   rw [hS]; simp [HP.stpP, h1, h2, h3]
 ·have hst : p.steps = 4 := by simp [HP.steps, hone, h8]
  have hpo : p.poll = false := by simp [HP.poll, h8]
  have hS : p.stp m H n = p.stpW m H n := by simp [HP.stp, hb, h9, h8]
  by_cases h0 : p.at_ = 0
  ·refine he_lock (s := p.s) w ggh d3 d4 x y z hi he (by simp [HP.kd, hb, h8, h9, h0]) hg.s n8 ac hg.w ?_ (.inl hpo) ?_ hk
   ·rw [hS]; simp [HP.stpW, h0]
   ·simp -implicitDefEqProofs [HP.places, hone, h8, h0]
  by_cases h1 : p.at_ = 1
  ·refine he_look w gg ggh d1 d2 d3 d4 x y z hi he (by simp [HP.kd, hb, h8, h9, h1]) ac ?_ (.inl hpo) ?_ hk
   ·rw [hS]; simp [HP.stpW, h1]
   ·simp -implicitDefEqProofs [HP.places, hone, h8, h1]
  by_cases h2 : p.at_ = 2
  ·exact he_wat w gg ggh ggm d1 d2 d3 d4 d5 d6 x y z hi he (by simp [HP.kd, hb, h8, h9, h2]) hs hk0 hg.s hg.o.s1 hb h9 h8 h2 hk
  ·refine he_unl (s := p.s) w ggh d3 d4 x y z hi he (by simp [HP.kd, hb, h8, h9, h0, h1, h2]) hg.s n8 ac (hs.st _ hg.s).wh ?_ (.inl hpo) ?_ hk
   ·rw [hS]; simp [HP.stpW, h0, h1, h2]
   ·simp -implicitDefEqProofs [HP.places, hone, h8, h1]
theorem hestep_ok (n : Int) (w : Wf T h) (gg : Gd g) (ggh : Gd gh) (ggm : Gd gm) (d1 : Off (pre g) gh) (d2 : Off (pre g) gm) (d3 : Off (pre gh) g) (d4 : Off (pre gh) gm) (d5 : Off (pre gm) g) (d6 : Off (pre gm) gh) (x : HPR T h g q mq p) (y : HallR T h gh hp H) (z : MineR T h gm mq m) (hs : HS k H) (hk0 : k < 100000) (hg : HPG H.n p)
  (hk : ∀ T' h', Only (U3p g gh gm) T h T' h' → HPR T' h' g q mq (p.step m H n).1 → HallR T' h' gh hp (p.step m H n).2.2 → MineR T' h' gm mq (p.step m H n).2.1 → K (.tuple #[]) h') : callM P qagZ #[ptr q, ptr hp, .int .i64 n] h K := by
 apply qrKZ
 unfold qjpZ
 refine heenabled_ok x y hg fun h1 e1 => ?_
 have o1 : Only non T h T h1 := Only.of_ext w e1
 have x1 := x.kp o1.k (Off.non _) (not_non _)
 have y1 := y.up o1 (Off.non _) (not_non _)
 have z1 := z.kp o1.k (Off.non _)
 unfold qmzZ
 cases he : p.enabled H with
 | false =>
  simp -implicitDefEqProofs
  have e : p.step m H n = (p, m, H) := by simp [HP.step, he]
  rw [e] at hk
  exact hk T h1 (o1.mono non_up) x1 y1 z1
 | true =>
  have hst : p.step m H n = p.stp m H n := by simp [HP.step, he]
  have hI := x.1.step m H n
  have hat := hstep_at p m H n
  have hkk := hstep_k p m H n
  rw [if_pos he] at hat
  rw [hst] at hk hI hat hkk
  have hpl := stp_placed (m := m) (n := n) he
  have h16' := stp_all16 (m := m) (n := n) hs hg he x.2.1
  have hlt := HP.lt_of_en he
  have hnd : p.done = false := by simp [HP.done]; omega
  obtain ⟨hi, h16, al, av, ev, fv, cv, x1⟩ := x1
  rw [hnd] at x1
  simp -implicitDefEqProofs only [Bool.false_eq_true, if_false] at x1
  have cp := x1.hp
  simp -implicitDefEqProofs only [hpC] at cp
  obtain ⟨b, rb, ia⟩ := x1.ac.1.ia (k := .i64) hlt
  have hcl : cel h1 b (p.at_ * 2 + 1) = some (fv p.at_) := by
   have h1 := x1.ac.1.cels rb (o := p.at_ * 2) (m := 2) (by omega)
   rw [seqF_at (sz := 2) (fun i _ => rfl) hlt] at h1
   exact (cels_get h1).2 1 (by simp)
  simp -implicitDefEqProofs
  unfold qmyZ
  rw [seqM_eq]
  unfold qmxZ
  simp -implicitDefEqProofs [ld_at cp, cel_of cp, stm_at cp, stm_upd, ld_same, cel_same, over, ia, hcl]
  refine heact_ok (n := n) o1.wf gg ggh ggm d1 d2 d3 d4 d5 d6 x1 y1 z1 hi h16 he hs hk0 hg ?_
  intro T2 h2 ev2 cv2 o2 x2 y2 z2
  have cp := x2.hp
  simp -implicitDefEqProofs only [hpC] at cp
  have hw : IntKind.i64.wrap ((p.at_ : Int) + 1) = (p.at_ + 1 : Nat) := by
   have : p.steps ≤ 3 * 8 + 4 := by
    have h1 := hg.k
    have h2 := hs.n8.2
    unfold HP.steps; split
    ·omega
    ·split <;> omega
   rw [wrap64_id (by omega) (by omega)]; omega
  -- the counting
  have fin : ∀ (p1 : HP) (h3 : Heap) (s : Env), Only (fun t => t = g ++ [0]) T2 h2 T2 h3 → p1 = { (p.stp m H n).1 with at_ := p.at_ } → HPX T2 h3 g q mq al p.steps p1 av ev2 fv cv2 (if (p.stp m H n).1.done then (p.stp m H n).1.rep.evs else []) → s 0 = ptr q → qhBZ s h3 K [] := by
   intro p1 h3 s o3 hp1 x3 s0
   have y3 := y2.up o3 (fun t ht hh => d1 t ht (eq_pre hh)) (by simp)
   have z3 := z2.kp o3.k (fun t ht hh => d2 t ht (eq_pre hh))
   have p1a : p1.at_ = p.at_ := by rw [hp1]
   have cp := x3.hp
   simp -implicitDefEqProofs only [hpC, p1a] at cp
   unfold qhBZ
   obtain ⟨o4, x4⟩ := x3.st (p' := (p.stp m H n).1) (ev' := ev2) o3.wf (c := _) rfl (by rw [hp1]) (by rw [hp1]) (by rw [hp1]) (by rw [hp1]) (by rw [hp1]) x3.ev
   have hst4 : (p.stp m H n).1.steps = p.steps := by unfold HP.steps HP.one; rw [hkk.2.1, hkk.2.2.1]
   have R4 : HPR T2 _ g q mq (p.stp m H n).1 := ⟨hI, h16', al, av, ev2, fv, cv2, by rw [hst4]; exact x4⟩
   have K4 := hk T2 _ (((o1.mono non_up).trans o2).trans ((o3.trans o4).mono fun _ hh => .inl (eq_pre hh))) R4 (y3.up o4 (fun t ht hh => d1 t ht (eq_pre hh)) (by simp)) (z3.kp o4.k (fun t ht hh => d2 t ht (eq_pre hh)))
   simp -implicitDefEqProofs only [hpC, hat] at K4
   simp -implicitDefEqProofs [s0, ld_at cp, cel_of cp, stm_at cp, stm_upd, ld_same, cel_same, over, hw, -Int.natCast_add]
   rw [hp1]
   exact K4
  unfold qmwZ
  cases hpc : p.places with
  | true =>
   rw [hpc] at hpl
   simp -implicitDefEqProofs only [if_true] at hpl
   simp -implicitDefEqProofs
   unfold qmuZ
   simp -implicitDefEqProofs
   apply qqOZ
   unfold qhGZ
   obtain ⟨o3, x3⟩ := x2.st (p' := { (p.stp m H n).1 with at_ := p.at_ }) (ev' := ev2) o2.wf (c := _) rfl rfl rfl rfl rfl rfl x2.ev
   simp -implicitDefEqProofs only [hpC, hpl] at o3 x3
   simp -implicitDefEqProofs [ld_at cp, cel_of cp, stm_at cp, stm_upd, ld_same, cel_same, over]
   unfold qmtZ
   simp -implicitDefEqProofs
   refine fin { (p.stp m H n).1 with at_ := p.at_, placed := n } _ _ o3 ?_ x3 (by simp)
   exact congrArg (fun z => ({ (p.stp m H n).1 with at_ := p.at_, placed := z } : HP)) hpl.symm
  | false =>
   rw [hpc] at hpl
   simp -implicitDefEqProofs only [Bool.false_eq_true, if_false] at hpl
   simp -implicitDefEqProofs
   unfold qmvZ
   simp -implicitDefEqProofs
   refine fin _ h2 _ (Only.refl o2.wf) ?_ x2 (by simp)
   have : (p.stp m H n).1 = { (p.stp m H n).1 with placed := p.placed } := by rw [← hpl]
   rw [this]
theorem hereply_ok (w : Wf T h) (x : HPR T h g q mq p) (hk : ∀ h' vv ev, Ext h h' → RpX (fz T h') (PR.h p).rep vv ev → K (.agg (rplC (PR.h p).rep vv ev).toArray) h') : callM P qhpZ #[ptr q] h K := by
 apply qroZ
 unfold qihZ
 rw [zcRep]
 refine nw_intro fun v1 h1 n1 e1 c1 => ?_
 have o1 : Only non T h T h1 := Only.of_ext w e1
 obtain ⟨hi, h16, al, av, ev, fv, cv, x⟩ := x
 have x1 := x.kp o1.k (Off.non _) (not_non _)
 refine hedone_ok ⟨hi, h16, al, av, ev, fv, cv, x1⟩ ?_
 unfold qltZ
 cases hd : p.done with
 | false =>
  simp -implicitDefEqProofs [ld_at c1, cel_of c1, stm_at c1, stm_upd, ld_same, cel_same, over, bdRep0]
  have hr : (PR.h p).rep = rep0 := by simp [PR.rep, hd]
  rw [hr] at hk
  refine kv (hk _ (.slice none 0 0) (.slice none 0 0) (ext_upd n1 e1) (RpX.no _ rfl rfl)) ?_
  simp -implicitDefEqProofs [rplC, rep0]
 | true =>
  rw [hd] at x1 x
  simp -implicitDefEqProofs only [if_true] at x1 x
  have hr : (PR.h p).rep = p.rep := by simp [PR.rep, hd]
  rw [hr] at hk
  have cp := x1.hp
  simp -implicitDefEqProofs only [hpC] at cp
  simp -implicitDefEqProofs
  unfold qlsZ
  have vo := x1.ev.one
  simp -implicitDefEqProofs [ld_at c1, cel_of c1, stm_at c1, ld_at cp, cel_of cp, stm_at cp, stm_upd, ld_same, cel_same, over, vo.1]
  have E := ext_upd (o := .cells #[.int .i64 p.rep.err, .slice none 0 0, ev, .bool p.rep.lost] quZ (0, 0)) n1 e1
  refine kv (hk _ (.slice none 0 0) ev E ⟨?_, ?_⟩) ?_
  ·rw [hi.vs]; exact .inl ⟨rfl, _, _, rfl⟩
  ·exact x.ev.ext (@EvR.ext) (fz_of_ext E)
  ·simp -implicitDefEqProofs [rplC]
end
end Go.Proofs.YtcnphhhcknhhaaaGreat
namespace Go.Proofs.YtcnphhhcknhhaaaGreat
open Go Go.Den Go.MapKept
set_option linter.unusedSimpArgs false
set_option linter.unusedVariables false
set_option maxRecDepth 20000
def UH (t : Tag) : Prop := pre [1] t ∨ pre [2] t ∨ pre [5] t
theorem UH.nil : ¬ UH [] := by rintro (h | h | h) <;> simp [pre] at h
theorem UH.i1 {t : Tag} (h : pre [1] t) : UH t := .inl h
theorem UH.i2 {i : Nat} {t : Tag} (h : pre [2, i] t) : UH t := .inr (.inl (pre_trans (g := [2]) (s := [i]) h))
theorem UH.i5 {i : Nat} {t : Tag} (h : pre [5, i] t) : UH t := .inr (.inr (pre_trans (g := [5]) (s := [i]) h))
theorem g5i (i : Nat) : Gd [5, i] := ⟨4, [i], rfl⟩
theorem d25 (i j : Nat) : Off (pre [2, i]) [5, j] := off_pre (g := []) (x := [2, i]) (y := [5, j]) (by simp) (by simp)
theorem d52 (i j : Nat) : Off (pre [5, i]) [2, j] := off_pre (g := []) (x := [5, i]) (y := [2, j]) (by simp) (by simp)
theorem d15 (j : Nat) : Off (pre [1]) [5, j] := off_pre (g := []) (x := [1]) (y := [5, j]) (by simp) (by simp)
theorem d51 (i : Nat) : Off (pre [5, i]) [1] := off_pre (g := []) (x := [5, i]) (y := [1]) (by simp) (by simp)
theorem d55 {i j : Nat} (h : i ≠ j) : Off (pre [5, i]) [5, j] := off_pre (g := [5]) (x := [i]) (y := [j]) (by simpa using h) (by simpa using Ne.symm h)
def PRh (T : Tags) (h : Heap) (g : Tag) (q mq : Nat) : PR → Prop
 | .w p => WPR T h g q p
 | .r p => RPR T h g q p
 | .h p => HPR T h g q mq p
theorem PRh.kp {U : Tag → Prop} {T T' : Tags} {h h' : Heap} {g : Tag} {q mq : Nat} {p : PR} (x : PRh T h g q mq p) (k : Kp U T h T' h') (o : Off U g) (n : ¬ U []) : PRh T' h' g q mq p := by
 cases p with
 | w p => exact WPR.kp x k o n
 | r p => exact RPR.kp x k o n
 | h p => exact HPR.kp x k o n
structure HdM (T : Tags) (h : Heap) (hp : Nat) (A B : Nat → Nat) (nm : Nat) (W : Wd) : Prop where
 hl : HallR T h [1] hp W.H
 ps : ∀ i p, W.ps i = some p → PRh T h [2, i] (A i) (B i) p
 ms : ∀ i, i < nm → MineR T h [5, i] (B i) (W.ms i)
theorem HdM.up {U : Tag → Prop} {T T' : Tags} {h h' : Heap} {hp nm : Nat} {A B : Nat → Nat} {W : Wd} (x : HdM T h hp A B nm W) (o : Only U T h T' h') (f : ∀ t, UH t → ¬ U t) (n : ¬ U []) : HdM T' h' hp A B nm W :=
 ⟨x.hl.up o (fun t ht => f t (.inl ht)) n, fun i p hp => (x.ps i p hp).kp o.k (fun t ht => f t (.inr (.inl (pre_trans (g := [2]) (s := [i]) ht)))) n, fun i hi => (x.ms i hi).kp o.k fun t ht => f t (.inr (.inr (pre_trans (g := [5]) (s := [i]) ht)))⟩
theorem HdM.ext {T : Tags} {h h' : Heap} {hp nm : Nat} {A B : Nat → Nat} {W : Wd} (x : HdM T h hp A B nm W) (w : Wf T h) (e : Ext h h') : HdM T h' hp A B nm W := x.up (Only.of_ext (U := non) w e) (fun _ _ h => h) (not_non _)
theorem HdM.put {U : Tag → Prop} {T T' : Tags} {h h' : Heap} {hp i nm : Nat} {A B : Nat → Nat} {W : Wd} {p : PR} (x : HdM T h hp A B nm W) (o : Only U T h T' h') (u : ∀ j, j ≠ i → Off U [2, j]) (v : ∀ j, j ≠ i → Off U [5, j]) (n : ¬ U []) {k : Int} (hp' : W.ps i = some p)
  (y' : HallR T' h' [1] hp (p.step (W.ms i) W.H k).2.2) (x' : PRh T' h' [2, i] (A i) (B i) (p.step (W.ms i) W.H k).1) (z' : i < nm → MineR T' h' [5, i] (B i) (p.step (W.ms i) W.H k).2.1) : HdM T' h' hp A B nm (W.step i k) := by
 have e : W.step i k = ⟨(p.step (W.ms i) W.H k).2.2, bset W.ps i (some (p.step (W.ms i) W.H k).1), bset W.ms i (p.step (W.ms i) W.H k).2.1⟩ := by simp only [Wd.step, hp']
 rw [e]
 refine ⟨y', fun j q hq => ?_, fun j hj => ?_⟩
 ·have hq : bset W.ps i (some (p.step (W.ms i) W.H k).1) j = some q := hq
  by_cases hji : j = i
  ·subst hji
   rw [bset_same] at hq
   simp -implicitDefEqProofs only [Option.some.injEq] at hq; subst hq
   exact x'
  ·rw [bset_ne hji] at hq
   exact (x.ps j q hq).kp o.k (u j hji) n
 ·show MineR T' h' [5, j] (B j) (bset W.ms i (p.step (W.ms i) W.H k).2.1 j)
  by_cases hji : j = i
  ·subst hji; rw [bset_same]; exact z' hj
  ·rw [bset_ne hji]; exact (x.ms j hj).kp o.k (v j hji)
section
variable {T : Tags} {h : Heap} {hp k i nm : Nat} {A B : Nat → Nat} {W : Wd} {M : Tbl} {K : Value → Heap → Prop}
theorem hdstep_w {p : WP} (n : Int) (w : Wf T h) (x : HdM T h hp A B nm W) (y : WdK k W M) (hk : k < 100000) (hp' : W.ps i = some (.w p)) (hK : ∀ T' h', Only UH T h T' h' → HdM T' h' hp A B nm (W.step i n) → K (.tuple #[]) h') : callM P qcCZ #[ptr (A i), ptr hp, .int .i64 n] h K := by
 have hpa := y.li.pa i _ hp'
 refine wstep_ok n w g1 (d12i i) (d2i1 i) (g2i i) (x.ps i _ hp') x.hl y.hs hk hpa.1 fun T' h' o x' y' => ?_
 have nn : ¬ two (pre [2, i]) (pre [1]) [] := by rintro (h | h) <;> simp [pre] at h
 refine hK T' h' (o.mono fun t ht => ht.elim UH.i2 UH.i1) (x.put o (fun j hj => dtwo (Ne.symm hj)) (fun j hj t ht hh => hh.elim (d25 i j t ht) (d15 j t ht)) nn hp' y' x' fun hi => ?_)
 exact (x.ms i hi).kp o.k fun t ht hh => hh.elim (d25 i i t ht) (d15 i t ht)
theorem hdstep_h {p : HP} (n : Int) (w : Wf T h) (x : HdM T h hp A B nm W) (y : WdK k W M) (hk : k < 100000) (hi : i < nm) (hp' : W.ps i = some (.h p)) (hK : ∀ T' h', Only UH T h T' h' → HdM T' h' hp A B nm (W.step i n) → K (.tuple #[]) h') : callM P qagZ #[ptr (A i), ptr hp, .int .i64 n] h K := by
 have hpa := y.li.pa i _ hp'
 refine hestep_ok n w (g2i i) g1 (g5i i) (d2i1 i) (d25 i i) (d12i i) (d15 i) (d52 i i) (d51 i) (x.ps i _ hp') x.hl (x.ms i hi) y.hs hk hpa.1 fun T' h' o x' y' z' => ?_
 have nn : ¬ U3p [2, i] [1] [5, i] [] := by rintro (h | h | h) <;> simp [pre] at h
 refine hK T' h' (o.mono fun t ht => ht.elim UH.i2 fun ht => ht.elim UH.i1 UH.i5) (x.put o (fun j hj t ht hh => hh.elim (d2ij (Ne.symm hj) t ht) fun hh => hh.elim (d12i j t ht) (d52 i j t ht)) (fun j hj t ht hh => hh.elim (d25 i j t ht) fun hh => hh.elim (d15 j t ht) (d55 (Ne.symm hj) t ht)) nn hp' y' x' fun _ => z')
theorem HdM.new {U : Tag → Prop} {T' : Tags} {h' : Heap} {q : Nat} {p : PR} (x : HdM T h hp A B nm W) (o : Only U T h T' h') (f1 : Off U [1]) (u : ∀ j, j ≠ i → Off U [2, j]) (v : ∀ j, Off U [5, j]) (n : ¬ U []) (x' : PRh T' h' [2, i] q (B i) p) : HdM T' h' hp (bset A i q) B nm { W with ps := bset W.ps i (some p) } := by
 refine ⟨x.hl.up o f1 n, fun j r hr => ?_, fun j hj => (x.ms j hj).kp o.k (v j)⟩
 have hr : bset W.ps i (some p) j = some r := hr
 by_cases hji : j = i
 ·subst hji
  rw [bset_same] at hr ⊢
  simp -implicitDefEqProofs only [Option.some.injEq] at hr; subst hr
  exact x'
 ·rw [bset_ne hji] at hr ⊢
  exact (x.ps j r hr).kp o.k (u j hji) n
theorem wp0_pa {i : Nat} {H : Hall} {o : OpD} {k : Nat} (hs : HS k H) (hi : i ≤ 900) (ow : OpW o) : PA H.n i H.c (.w (wp0 H i o)) := by
 have n8 := hs.n8
 have nn := hs.nn
 have hst := stripeOf_lt (u := o.user) (n := H.c.stripes) (by omega)
 have hsn : (stripeOf o.user H.c.stripes).toNat < H.n := by omega
 refine ⟨sect_g hsn (by omega) fun z hz => ?_, rfl, by simp [wp0, sect], fun z hz => ?_⟩
 ·split at hz
  ·cases hz
  ·cases hz; exact ow
 ·have hz : (if badB o then WK.bad else .op o) = .op z := hz
  split at hz
  ·cases hz
  ·cases hz; rfl
theorem hp0_pa {i : Nat} {H : Hall} {o : OpD} {k : Nat} (hs : HS k H) (hi : i < 8) (ow : OpW o) (h6 : badB o = false → 6 ≤ o.kind) : PA H.n i H.c (.h (hp0 H i o)) := by
 have n8 := hs.n8
 have nn := hs.nn
 have hst := stripeOf_lt (u := o.user) (n := H.c.stripes) (by omega)
 refine ⟨⟨rfl, by show (stripeOf o.user H.c.stripes).toNat < H.n; omega, by show -1 ≤ (i : Int) ∧ (i : Int) ≤ 900; omega, ow, Nat.zero_le _⟩, rfl, hi, h6, rfl⟩
theorem hdnew_w (hi : i ≤ 900) (o : OpD) (ow : OpW o) (hl : o.users.length < 1000000) {v : Value} (hv : Sl 1 StrR (fz T h) v o.users) (w : Wf T h) (x : HdM T h hp A B nm W) (y : WdK k W M) (hi' : ∀ q, W.ps i = some q → Idle q (W.ms i) W.H.c)
  (hK : ∀ T' h' q, Only UH T h T' h' → HdM T' h' hp (bset A i q) B nm { W with ps := bset W.ps i (some (.w (wp0 W.H i o))) } → WdK k { W with ps := bset W.ps i (some (.w (wp0 W.H i o))) } M → K (ptr q) h') : callM P qhlZ #[ptr hp, .int .i64 i, .agg (opC o v).toArray] h K := by
 have n8 := y.hs.n8
 have nn := y.hs.nn
 refine wnew_ok i o ow w (g2i i) x.hl hv hl (by omega) fun T' h' q o' nq x' => ?_
 exact hK T' h' q (o'.mono non_up) (x.new o' (Off.non _) (fun _ _ => Off.non _) (fun _ => Off.non _) (not_non _) x') ⟨y.li.start (wp0_pa y.hs hi ow) (Idle.w _ _ rfl) hi', y.hs, y.ts⟩
theorem hdnew_h (hi : i < 8) (o : OpD) (ow : OpW o) (hl : o.users.length < 1000000) (h6 : badB o = false → 6 ≤ o.kind) {v : Value} (hv : Sl 1 StrR (fz T h) v o.users) (w : Wf T h) (x : HdM T h hp A B nm W) (y : WdK k W M) (hi' : ∀ q, W.ps i = some q → Idle q (W.ms i) W.H.c)
  (hK : ∀ T' h' q, Only UH T h T' h' → HdM T' h' hp (bset A i q) B nm { W with ps := bset W.ps i (some (.h (hp0 W.H i o))) } → WdK k { W with ps := bset W.ps i (some (.h (hp0 W.H i o))) } M → K (ptr q) h') : callM P qeYZ #[ptr hp, ptr (B i), .int .i64 i, .agg (opC o v).toArray] h K := by
 have n8 := y.hs.n8
 have nn := y.hs.nn
 refine henew_ok i o ow w (g2i i) (d2i1 i) x.hl hv hl (by omega) nn fun T' h' q o' x' => ?_
 exact hK T' h' q (o'.mono fun _ => UH.i2) (x.new o' (d2i1 i) (fun j hj => d2ij (Ne.symm hj)) (fun j => d25 i j) (by simp [pre]) x') ⟨y.li.start (hp0_pa y.hs hi ow h6) (Idle.hh _ _ rfl) hi', y.hs, y.ts⟩
end
end Go.Proofs.YtcnphhhcknhhaaaGreat
namespace Go.Den
open Go
set_option linter.unusedVariables false
set_option linter.unusedSimpArgs false
def HP.pl (p : HP) : Nat := if p.one then 0 else if p.x.kind = 8 then p.k else 1
theorem places_pl (p : HP) (hlt : p.at_ < p.steps) : p.places = decide (p.at_ = p.pl) := by
 unfold HP.places HP.pl
 unfold HP.steps at hlt
 cases h : p.one with
 | true => rw [h] at hlt; simp at hlt; simp [hlt]
 | false =>
  by_cases h8 : p.x.kind = 8 <;> simp [h8]
theorem pl_lt (p : HP) (hk : 1 ≤ p.k) : p.pl < p.steps := by
 unfold HP.pl HP.steps
 cases h : p.one with
 | true => simp
 | false => by_cases h8 : p.x.kind = 8 <;> simp [h8] <;> omega
structure AH (i k : Nat) (W : Wd) (M M0 : Tbl) (x : OpD) (p : HP) : Prop where
 hp : W.ps i = some (.h p)
 ar : AR W i
 xx : p.x = x
 at_ : p.at_ = k
 le : k ≤ p.steps
 m : M = if p.pl < k then (M0.do_ i x).1 else M0
 po : HO p (W.ms i) W.H (if p.pl < k then (M0.do_ i x).2 else rep0)
theorem AH.en {i k : Nat} {W : Wd} {M M0 : Tbl} {x : OpD} {p : HP} (a : AH i k W M M0 x p) (li : LI W M) (hk : k < p.steps) : p.enabled W.H = true := by
 have hg := (li.pa i _ a.hp).1
 have hat := a.at_
 have hd : p.done = false := by simp [HP.done]; omega
 unfold HP.enabled
 rw [hd]
 simp only [Bool.not_false, Bool.true_and, Bool.or_eq_true, decide_eq_true_eq]
 have free : ∀ s, s < W.H.n → ¬ p.holds s → (W.H.ss s).who = 0 := fun s hs hh => (li.free_iff hs).2 fun j q hq hj => by
  by_cases hji : j = i
  ·subst hji
   rw [a.hp] at hq; cases hq
   exact hh hj
  ·exact a.ar j q hji hq s hj
 unfold HP.needs
 cases h1 : p.one with
 | true => left; simp
 | false =>
  simp only [Bool.false_eq_true, if_false]
  by_cases h8 : p.x.kind = 8
  ·simp only [h8, if_true]
   by_cases hlt : p.at_ < p.k
   ·right
    simp only [hlt, if_true, Int.toNat_natCast]
    refine free _ (by have := hg.k; omega) fun hh => ?_
    unfold HP.holds at hh
    rw [if_pos h8] at hh
    omega
   ·left; simp [hlt]
  ·simp only [h8, if_false]
   by_cases h0 : p.at_ = 0
   ·right
    simp only [h0, if_true, Int.toNat_natCast]
    refine free _ hg.s fun hh => ?_
    unfold HP.holds at hh
    rw [if_neg h8] at hh
    omega
   ·left; simp [h0]
theorem AH.step {i k m j : Nat} {W : Wd} {M M0 : Tbl} {x : OpD} {p : HP} (a : AH i k W M M0 x p) (li : LI W M) (hs : HS m W.H) (ts : TS j M) (hk : k < p.steps) (n : Int) :
  AH i (k + 1) (W.step i n) ((PR.h p).tb W.H M) M0 x (p.step (W.ms i) W.H n).1 := by
 have hen := a.en li hk
 have hpa := li.pa i _ a.hp
 have hst : W.step i n = ⟨(p.step (W.ms i) W.H n).2.2, bset W.ps i (some (.h (p.step (W.ms i) W.H n).1)), bset W.ms i (p.step (W.ms i) W.H n).2.1⟩ := by simp only [Wd.step, a.hp, PR.step]
 have hk4 := hstep_k p (W.ms i) W.H n
 have po := li.po_step hs ts a.hp n (r := if p.pl < k then (M0.do_ i x).2 else rep0) a.po
 have po : HO (p.step (W.ms i) W.H n).1 (p.step (W.ms i) W.H n).2.1 (p.step (W.ms i) W.H n).2.2 (if p.enabled W.H = true ∧ p.places = true then (M.do_ p.who p.x).2 else (if p.pl < k then (M0.do_ i x).2 else rep0)) := po
 have hat := a.at_
 have hstp : (p.step (W.ms i) W.H n).1.steps = p.steps := by unfold HP.steps HP.one; rw [hk4.2.1, hk4.2.2.1]
 have hpl : (p.step (W.ms i) W.H n).1.pl = p.pl := by unfold HP.pl HP.one; rw [hk4.2.1, hk4.2.2.1]
 have hplc := places_pl p (by omega)
 have hw : p.who = i := hpa.2.w
 have htb : (PR.h p).tb W.H M = if p.pl < k + 1 then (M0.do_ i x).1 else M0 := by
  show (if p.enabled W.H = true ∧ p.places = true then (M.do_ p.who p.x).1 else M) = _
  rw [hplc, hat, hw, a.xx, a.m]
  by_cases h1 : k = p.pl
  ·have h2 : ¬ p.pl < k := by omega
   have h3 : p.pl < k + 1 := by omega
   rw [if_pos ⟨hen, by simp [h1]⟩, if_neg h2, if_pos h3]
  ·rw [if_neg (by simp [h1])]
   by_cases h2 : p.pl < k
   ·rw [if_pos h2, if_pos (by omega)]
   ·rw [if_neg h2, if_neg (by omega)]
 have hre : (if p.enabled W.H = true ∧ p.places = true then (M.do_ p.who p.x).2 else (if p.pl < k then (M0.do_ i x).2 else rep0)) = if p.pl < k + 1 then (M0.do_ i x).2 else rep0 := by
  rw [hplc, hat, hw, a.xx, a.m]
  by_cases h1 : k = p.pl
  ·have h2 : ¬ p.pl < k := by omega
   have h3 : p.pl < k + 1 := by omega
   rw [if_pos ⟨hen, by simp [h1]⟩, if_neg h2, if_pos h3]
  ·rw [if_neg (by simp [h1])]
   by_cases h2 : p.pl < k
   ·rw [if_pos h2, if_pos (by omega)]
   ·rw [if_neg h2, if_neg (by omega)]
 rw [hre] at po
 refine ⟨by rw [hst]; exact bset_same _ _ _, a.ar.step n, by rw [hk4.2.1]; exact a.xx, ?_, by rw [hstp]; omega, ?_, ?_⟩
 ·rw [hstep_at, if_pos hen, hat]
 ·rw [htb, hpl]
 ·have h1 : (W.step i n).ms i = (p.step (W.ms i) W.H n).2.1 := by rw [hst]; exact bset_same _ _ _
  have h2 : (W.step i n).H = (p.step (W.ms i) W.H n).2.2 := by rw [hst]
  rw [h1, h2, hpl]; exact po
theorem AH.init {W : Wd} {i : Nat} (ar : AR W i) (M : Tbl) (x : OpD) : AH i 0 { W with ps := bset W.ps i (some (.h (hp0 W.H i x))) } M M x (hp0 W.H i x) := by
 refine ⟨bset_same _ _ _, fun j q hj hq => ?_, rfl, rfl, Nat.zero_le _, by simp, ?_⟩
 ·rw [show ({ W with ps := bset W.ps i (some (.h (hp0 W.H i x))) } : Wd).ps j = W.ps j from bset_ne hj] at hq
  exact ar j q hj hq
 ·simp only [Nat.not_lt_zero, if_false]
  refine ⟨fun _ => .inl ⟨rfl, rfl⟩, fun _ _ => ⟨rfl, rfl, fun _ => ⟨rfl, rfl, rfl⟩, fun h => absurd h (by simp [hp0]), fun h => absurd h (by simp [hp0])⟩, fun _ _ => ⟨fun _ => rfl, fun h => absurd h (by simp [hp0]), fun h => absurd h (by simp [hp0])⟩⟩
theorem HO.fin {p : HP} {m : Mine} {H : Hall} {r : Reply} (x : HO p m H r) (h : p.at_ = p.steps) (hk1 : 1 ≤ p.k) : p.rep = r := by
 cases h1 : p.one with
 | true =>
  have hs : p.steps = 1 := by simp [HP.steps, h1]
  rcases x.o h1 with ⟨h2, _⟩ | ⟨_, h2⟩
  ·omega
  ·exact h2
 | false =>
  by_cases h8 : p.x.kind = 8
  ·have hs : p.steps = 3 * p.k + 1 := by simp [HP.steps, h1, h8]
   obtain ⟨p1, p2, p3, p4, p5⟩ := x.p0 h1 h8
   have hk : ¬ p.k = 0 := by omega
   have r4 := p4 (by omega)
   have r5 := p5 (by omega)
   obtain ⟨q1, q2⟩ := rest_nil p H (j := p.at_ - p.k - 1) (by omega)
   rw [r4, q1, q2, List.append_nil, Bool.or_false, ← r5]
   cases hr : p.rep
   rw [hr] at p1 p2
   simp at p1 p2
   simp [p1, p2]
  ·have hs : p.steps = 4 := by simp [HP.steps, h1, h8]
   exact ((x.w h1 h8).2.2 (by omega)).symm
theorem AH.done {i k : Nat} {W : Wd} {M M0 : Tbl} {x : OpD} {p : HP} (a : AH i k W M M0 x p) (li : LI W M) (hk : k = p.steps) (hn : 1 ≤ W.H.n) : p.done = true ∧ (∀ j q, W.ps j = some q → ∀ s, ¬ q.holds s) ∧ M = (M0.do_ i x).1 ∧ p.rep = (M0.do_ i x).2 := by
 have hpa := li.pa i _ a.hp
 have hat := a.at_
 have hpk : 1 ≤ p.k := by have := hpa.1.k; omega
 have hpl := pl_lt p hpk
 have hd : p.done = true := by simp [HP.done]; omega
 have hm := a.m
 have po := a.po
 rw [if_pos (by omega)] at hm po
 refine ⟨hd, fun j q hq s hh => ?_, hm, po.fin (by omega) hpk⟩
 by_cases hj : j = i
 ·subst hj
  rw [a.hp] at hq; cases hq
  exact (Idle.done (m := W.ms j) hpa hd hn).h s hh
 ·exact a.ar j q hj hq s hh
theorem miset_le (m : Mine) (u : ByteArray) (on : Bool) {w : Nat} (h : m.length ≤ w) (h2 : on = true → mhas m u = true ∨ m.length < w) : (miset m u on).length ≤ w := by
 unfold miset
 rw [List.length_append]
 have h1 := List.length_filter_le (fun k => !decide (k = u)) m
 cases on with
 | false => simp; omega
 | true =>
  simp only [if_true, List.length_singleton]
  rcases h2 rfl with h3 | h3
  ·have : (m.filter fun k => !decide (k = u)).length < m.length := by
    rcases Nat.lt_or_ge (m.filter fun k => !decide (k = u)).length m.length with h | h
    ·exact h
    ·exfalso
     have he : (m.filter fun k => !decide (k = u)) = m := List.filter_sublist.eq_of_length (by omega)
     have hu : u ∈ m := mhas_iff.1 h3
     rw [← he] at hu
     simp at hu
   omega
  ·omega
theorem hstep_le {p : HP} {m : Mine} {H : Hall} {n : Int} (h : (m.length : Int) ≤ H.c.watches) : ((p.step m H n).2.1.length : Int) ≤ H.c.watches := by
 unfold HP.step
 split
 rotate_left
 ·exact h
 unfold HP.stp
 split
 ·exact h
 split
 ·exact h
 split
 ·exact h
 unfold HP.stpW
 split
 ·exact h
 split
 ·exact h
 split
 rotate_left
 ·exact h
 split
 ·exact h
 split
 ·exact h
 rename_i hc
 have := miset_le m p.x.user (decide (p.x.kind = 6)) (w := H.c.watches.toNat) (by omega) fun hon => by
  by_cases hm : mhas m p.x.user = true
  ·exact .inl hm
  ·right
   have hon : p.x.kind = 6 := by simpa using hon
   have : ¬ H.c.watches ≤ (m.length : Int) := fun hw => hc ⟨hon, by simpa using hm, hw⟩
   omega
 show ((miset m p.x.user _).length : Int) ≤ _
 omega
end Go.Den
namespace Go.Proofs.YtcnphhhcknhhaaaGreat
open Go Go.Den Go.MapKept
set_option linter.unusedSimpArgs false
set_option linter.unusedVariables false
set_option maxRecDepth 20000
def hLen (N : Nat) (x : OpD) : Nat := if badB x || decide (x.kind = 9) then 1 else if x.kind = 8 then 3 * N + 1 else 4
theorem steps_hLen {p : HP} {N : Nat} {x : OpD} (h1 : p.x = x) (h2 : p.k = N) : p.steps = hLen N x := by unfold HP.steps HP.one hLen; rw [h1, h2]
structure RH (T0 : Tags) (h0 : Heap) (hp m N nm : Nat) (c : Cfg) (B : Nat → Nat) (W : Wd) (M : Tbl) (T' : Tags) (h' : Heap) : Prop where
 o : Only UH T0 h0 T' h'
 x : ∃ A, HdM T' h' hp A B nm W
 k : WdK m W M
 r : ∀ j q, W.ps j = some q → Idle q (W.ms j) W.H.c
 n : W.H.n = N
 ec : W.H.c = c
 lm : ∀ j, ((W.ms j).length : Int) ≤ c.watches
 hz : ∀ j, nm ≤ j → W.ms j = [] ∧ ∀ p, W.ps j ≠ some (.h p)
section
variable {T0 T' : Tags} {h0 h' : Heap} {hp q i k m N nm : Nat} {c : Cfg} {B : Nat → Nat} {W : Wd} {M M0 : Tbl} {x : OpD} {K : Value → Heap → Prop}
theorem RH.ms (y : RH T0 h0 hp m N nm c B W M T' h') {j : Nat} (hj : j < nm) : MineR T' h' [5, j] (B j) (W.ms j) := let ⟨_, x⟩ := y.x; x.ms j hj
theorem RH.ext {h'' : Heap} (y : RH T0 h0 hp m N nm c B W M T' h') (e : Ext h' h'') : RH T0 h0 hp m N nm c B W M T' h'' :=
 ⟨y.o.up (Only.of_ext (U := non) y.o.wf e) non_up, let ⟨A, x⟩ := y.x; ⟨A, x.ext y.o.wf e⟩, y.k, y.r, y.n, y.ec, y.lm, y.hz⟩
theorem RH.mono {k : Nat} (y : RH T0 h0 hp m N nm c B W M T' h') (h : m ≤ k) : RH T0 h0 hp k N nm c B W M T' h' := ⟨y.o, y.x, ⟨y.k.li, y.k.hs.mono h, y.k.ts.mono h⟩, y.r, y.n, y.ec, y.lm, y.hz⟩
theorem RH.base {U : Tag → Prop} {T'' : Tags} {h'' : Heap} (y : RH T0 h0 hp m N nm c B W M T' h') (o : Only U T' h' T'' h'') (f : ∀ t, UH t → ¬ U t) (n : ¬ U []) : RH T'' h'' hp m N nm c B W M T'' h'' :=
 ⟨Only.refl o.wf, let ⟨A, x⟩ := y.x; ⟨A, x.up o f n⟩, y.k, y.r, y.n, y.ec, y.lm, y.hz⟩
theorem RH.init {T : Tags} {h : Heap} (cw : CfgW c) (hr : rightB c = true) (w : Wf T h) (y : HallR T h [1] hp (hall0 c c.stripes.toNat)) (B : Nat → Nat) : RH T h hp 0 c.stripes.toNat 0 c B (wd0 c c.stripes.toNat) (tbl0 c c.stripes.toNat) T h :=
 ⟨Only.refl w, ⟨fun _ => 0, y, fun i p h => by simp [wd0] at h, fun i h => by omega⟩, wd0K cw hr (cfg_nn hr).1, fun j q h => by simp [wd0] at h, rfl, rfl, fun j => by
  simp -implicitDefEqProofs only [rightB, decide_eq_true_eq] at hr
  show ((([] : Mine).length : Nat) : Int) ≤ _
  simp; omega, fun j _ => ⟨rfl, fun p h => by simp [wd0] at h⟩⟩
structure AhI (T0 : Tags) (h0 : Heap) (hp q i k m N nm : Nat) (c : Cfg) (B : Nat → Nat) (x : OpD) (M0 : Tbl) (ms0 : Nat → Mine) (T' : Tags) (h' : Heap) : Prop where
 o : Only UH T0 h0 T' h'
 e : ∃ (W : Wd) (M : Tbl) (p : HP) (A : Nat → Nat), HdM T' h' hp A B nm W ∧ A i = q ∧ WdK (m + k) W M ∧ AH i k W M M0 x p ∧ p.steps = hLen N x ∧ (∀ j q, j ≠ i → W.ps j = some q → Idle q (W.ms j) W.H.c) ∧ W.H.n = N ∧ W.H.c = c ∧ (∀ j, ((W.ms j).length : Int) ≤ c.watches) ∧ (∀ j, nm ≤ j → W.ms j = [] ∧ ∀ p, W.ps j ≠ some (.h p)) ∧ ∀ j, j ≠ i → W.ms j = ms0 j
theorem ah_new (y : RH T0 h0 hp m N nm c B W M T' h') (hin : i < nm) (hi : i < 8) (x : OpD) (xw : OpW x) (h6 : badB x = false → 6 ≤ x.kind) (hl : x.users.length < 1000000) {v : Value} (hv : Sl 1 StrR (fz T' h') v x.users)
  (hk : ∀ T'' h'' q, AhI T0 h0 hp q i 0 m N nm c B x M W.ms T'' h'' → K (ptr q) h'') : callM P qeYZ #[ptr hp, ptr (B i), .int .i64 i, .agg (opC x v).toArray] h' K := by
 obtain ⟨A, xm⟩ := y.x
 refine hdnew_h hi x xw hl h6 hv y.o.wf xm y.k (fun q hq => y.r i q hq) fun T2 h2 q o2 x2 k2 => ?_
 refine hk T2 h2 q ⟨y.o.trans o2, _, M, hp0 W.H i x, bset A i q, x2, bset_same _ _ _, k2, ?_, ?_, fun j q hj hq => ?_, y.n, y.ec, y.lm, fun j hj => ⟨(y.hz j hj).1, fun p hp => (y.hz j hj).2 p (by rw [← hp]; exact (bset_ne (by omega)).symm)⟩, fun j _ => rfl⟩
 ·exact AH.init (fun j q hj hq s => (y.r j q hq).h s) M x
 ·exact steps_hLen rfl y.n
 ·have hq : bset W.ps i _ j = some q := hq
  rw [bset_ne hj] at hq
  exact y.r j q hq
theorem ah_step {ms0 : Nat → Mine} (y : AhI T0 h0 hp q i k m N nm c B x M0 ms0 T' h') (hi : i < nm) (hkl : k < hLen N x) (hm : m + k < 100000) (n : Int)
  (hk : ∀ T'' h'', AhI T0 h0 hp q i (k + 1) m N nm c B x M0 ms0 T'' h'' → K (.tuple #[]) h'') : callM P qagZ #[ptr q, ptr hp, .int .i64 n] h' K := by
 obtain ⟨W, M, p, A, xm, rfl, wk, a, hst, hid, hn, hc, hlm, hhz, hms⟩ := y.e
 refine hdstep_h n y.o.wf xm wk hm hi a.hp fun T2 h2 o2 x2 => ?_
 have wk2 := wk.step hm a.hp n
 have a2 := a.step wk.li wk.hs wk.ts (by omega) n
 have hst2 : W.step i n = ⟨(p.step (W.ms i) W.H n).2.2, bset W.ps i (some (.h (p.step (W.ms i) W.H n).1)), bset W.ms i (p.step (W.ms i) W.H n).2.1⟩ := by simp only [Wd.step, a.hp, PR.step]
 have hk4 := hstep_k p (W.ms i) W.H n
 have hn2 := hstep_n p (W.ms i) W.H n
 have hHn : (W.step i n).H.n = W.H.n ∧ (W.step i n).H.c = W.H.c := by rw [hst2]; exact hn2
 refine hk T2 h2 ⟨y.o.trans o2, _, _, _, A, x2, rfl, wk2, a2, ?_, fun j q hj hq => ?_, by rw [hHn.1]; exact hn, by rw [hHn.2]; exact hc, fun j => ?_, fun j hj => ⟨?_, fun p' hp' => ?_⟩, fun j hj => ?_⟩
 ·rw [← hst]; unfold HP.steps HP.one; rw [hk4.2.1, hk4.2.2.1]
 ·have h1 : (W.step i n).ps j = W.ps j := by rw [hst2]; exact bset_ne hj
  have h2 : (W.step i n).ms j = W.ms j := by rw [hst2]; exact bset_ne hj
  rw [h1] at hq
  rw [h2, hHn.2]
  exact hid j q hj hq
 ·by_cases hj : j = i
  ·subst hj
   have h2 : (W.step j n).ms j = (p.step (W.ms j) W.H n).2.1 := by rw [hst2]; exact bset_same _ _ _
   rw [h2]
   have := hstep_le (p := p) (H := W.H) (n := n) (m := W.ms j) (by rw [hc]; exact hlm j)
   rw [hc] at this; exact this
  ·have h2 : (W.step i n).ms j = W.ms j := by rw [hst2]; exact bset_ne hj
   rw [h2]; exact hlm j
 ·have h2 : (W.step i n).ms j = W.ms j := by rw [hst2]; exact bset_ne (by omega)
  rw [h2]; exact (hhz j hj).1
 ·have h1 : (W.step i n).ps j = W.ps j := by rw [hst2]; exact bset_ne (by omega)
  rw [h1] at hp'; exact (hhz j hj).2 p' hp'
 ·have h2 : (W.step i n).ms j = W.ms j := by rw [hst2]; exact bset_ne hj
  rw [h2]; exact hms j hj
theorem ah_done {ms0 : Nat → Mine} (y : AhI T0 h0 hp q i (hLen N x) m N nm c B x M0 ms0 T' h') :
  ∃ W p, RH T0 h0 hp (m + hLen N x) N nm c B W (M0.do_ i x).1 T' h' ∧ HPR T' h' [2, i] q (B i) p ∧ p.done = true ∧ p.rep = (M0.do_ i x).2 ∧ ∀ j, j ≠ i → W.ms j = ms0 j := by
 obtain ⟨W, M, p, A, xm, rfl, wk, a, hst, hid, hn, hc, hlm, hhz, hms⟩ := y.e
 have n1 := wk.hs.n8.1
 obtain ⟨d1, d2, d3, d4⟩ := a.done wk.li hst.symm n1
 subst d3
 refine ⟨W, p, ⟨y.o, ⟨A, xm⟩, wk, fun j q hq => ?_, hn, hc, hlm, hhz⟩, xm.ps i _ a.hp, d1, d4, hms⟩
 by_cases hj : j = i
 ·subst hj
  rw [a.hp] at hq; cases hq
  exact Idle.done (wk.li.pa j _ a.hp) d1 n1
 ·exact hid j q hj hq
structure AvI (T0 : Tags) (h0 : Heap) (hp q i k m N nm : Nat) (c : Cfg) (B : Nat → Nat) (x : OpD) (M0 : Tbl) (ms0 : Nat → Mine) (T' : Tags) (h' : Heap) : Prop where
 o : Only UH T0 h0 T' h'
 e : ∃ (W : Wd) (M : Tbl) (p : WP) (A : Nat → Nat), HdM T' h' hp A B nm W ∧ A i = q ∧ WdK (m + k) W M ∧ AW i k W M M0 x p ∧ p.s = (stripeOf x.user c.stripes).toNat ∧ (∀ j q, j ≠ i → W.ps j = some q → Idle q (W.ms j) W.H.c) ∧ W.H.n = N ∧ W.H.c = c ∧ (∀ j, ((W.ms j).length : Int) ≤ c.watches) ∧ (∀ j, nm ≤ j → W.ms j = [] ∧ ∀ p, W.ps j ≠ some (.h p)) ∧ ∀ j, W.ms j = ms0 j
theorem av_new (y : RH T0 h0 hp m N nm c B W M T' h') (hi : i ≤ 900) (x : OpD) (xw : OpW x) (hl : x.users.length < 1000000) {v : Value} (hv : Sl 1 StrR (fz T' h') v x.users)
  (hk : ∀ T'' h'' q, AvI T0 h0 hp q i 0 m N nm c B x M W.ms T'' h'' → K (ptr q) h'') : callM P qhlZ #[ptr hp, .int .i64 i, .agg (opC x v).toArray] h' K := by
 obtain ⟨A, xm⟩ := y.x
 refine hdnew_w hi x xw hl hv y.o.wf xm y.k (fun q hq => y.r i q hq) fun T2 h2 q o2 x2 k2 => ?_
 refine hk T2 h2 q ⟨y.o.trans o2, _, M, wp0 W.H i x, bset A i q, x2, bset_same _ _ _, k2, ?_, ?_, fun j q hj hq => ?_, y.n, y.ec, y.lm, fun j hj => ⟨(y.hz j hj).1, fun p hp => ?_⟩, fun j => rfl⟩
 ·exact AW.init (fun j q hj hq s => (y.r j q hq).h s) M x _
 ·show (stripeOf x.user W.H.c.stripes).toNat = _; rw [y.ec]
 ·have hq : bset W.ps i _ j = some q := hq
  rw [bset_ne hj] at hq; exact y.r j q hq
 ·have hp : bset W.ps i _ j = some (.h p) := hp
  by_cases hji : j = i
  ·subst hji; rw [bset_same] at hp; cases hp
  ·rw [bset_ne hji] at hp; exact (y.hz j hj).2 p hp
theorem av_step {ms0 : Nat → Mine} (y : AvI T0 h0 hp q i k m N nm c B x M0 ms0 T' h') (hk7 : k < 7) (hm : m + k < 100000) (n : Int)
  (hk : ∀ T'' h'', AvI T0 h0 hp q i (k + 1) m N nm c B x M0 ms0 T'' h'' → K (.tuple #[]) h'') : callM P qcCZ #[ptr q, ptr hp, .int .i64 n] h' K := by
 obtain ⟨W, M, p, A, xm, rfl, wk, a, hs, hid, hn, hc, hlm, hhz, hms⟩ := y.e
 refine hdstep_w n y.o.wf xm wk hm a.hp fun T2 h2 o2 x2 => ?_
 have wk2 := wk.step hm a.hp n
 have a2 := a.step wk.li wk.hs wk.ts hk7 n
 have hst2 : W.step i n = ⟨(p.step W.H n).2, bset W.ps i (some (.w (p.step W.H n).1)), bset W.ms i (W.ms i)⟩ := by simp only [Wd.step, a.hp, PR.step]
 have hn2 := wstep_n p W.H n
 have hHn : (W.step i n).H.n = W.H.n ∧ (W.step i n).H.c = W.H.c := by rw [hst2]; exact hn2
 have hM : ∀ j, (W.step i n).ms j = W.ms j := fun j => by rw [hst2]; show bset W.ms i (W.ms i) j = W.ms j; rw [bset_id]
 refine hk T2 h2 ⟨y.o.trans o2, _, _, _, A, x2, rfl, wk2, a2, ?_, fun j q hj hq => ?_, by rw [hHn.1]; exact hn, by rw [hHn.2]; exact hc, fun j => by rw [hM]; exact hlm j, fun j hj => ⟨by rw [hM]; exact (hhz j hj).1, fun p' hp' => ?_⟩, fun j => by rw [hM]; exact hms j⟩
 ·rw [(wstep_k p W.H n).2.2]; exact hs
 ·have h1 : (W.step i n).ps j = W.ps j := by rw [hst2]; exact bset_ne hj
  rw [h1] at hq
  rw [hM, hHn.2]
  exact hid j q hj hq
 ·rw [hst2] at hp'
  have hp' : bset W.ps i (some (.w (p.step W.H n).1)) j = some (.h p') := hp'
  by_cases hji : j = i
  ·subst hji; rw [bset_same] at hp'; cases hp'
  ·rw [bset_ne hji] at hp'; exact (hhz j hj).2 p' hp'
theorem av_done {ms0 : Nat → Mine} (y : AvI T0 h0 hp q i 7 m N nm c B x M0 ms0 T' h') :
  ∃ W p, RH T0 h0 hp (m + 7) N nm c B W ((wkOf x).bef (stripeOf x.user c.stripes).toNat M0).1 T' h' ∧ WPR T' h' [2, i] q p ∧ p.done = true ∧ repE p.err = ((wkOf x).bef (stripeOf x.user c.stripes).toNat M0).2 ∧ ∀ j, W.ms j = ms0 j := by
 obtain ⟨W, M, p, A, xm, rfl, wk, a, hs, hid, hn, hc, hlm, hhz, hms⟩ := y.e
 have n1 := wk.hs.n8.1
 obtain ⟨d1, d2, d3, d4⟩ := a.done
 rw [hs] at d3 d4
 subst d3
 refine ⟨W, p, ⟨y.o, ⟨A, xm⟩, wk, fun j q hq => ?_, hn, hc, hlm, hhz⟩, xm.ps i _ a.hp, d1, d4, hms⟩
 by_cases hj : j = i
 ·subst hj
  rw [a.hp] at hq; cases hq
  exact Idle.done (wk.li.pa j _ a.hp) d1 n1
 ·exact hid j q hj hq
theorem rh_mine {T'' : Tags} {h'' : Heap} (y : RH T0 h0 hp m N nm c B W M T' h') (o : Only non T' h' T'' h'') {q : Nat} (z : MineR T'' h'' [5, nm] q []) : RH T0 h0 hp m N (nm + 1) c (bset B nm q) W M T'' h'' := by
 obtain ⟨A, xm⟩ := y.x
 refine ⟨y.o.up o non_up, ⟨A, xm.hl.up o (Off.non _) (not_non _), fun j r hr => ?_, fun j hj => ?_⟩, y.k, y.r, y.n, y.ec, y.lm, fun j hj => y.hz j (by omega)⟩
 ·have := (xm.ps j r hr).kp o.k (Off.non _) (not_non _)
  by_cases hjn : j = nm
  ·subst hjn
   cases r with
   | w p => exact this
   | r p => exact this
   | h p => exact absurd hr ((y.hz _ (Nat.le_refl _)).2 p)
  ·rw [bset_ne hjn]; exact this
 ·by_cases hjn : j = nm
  ·subst hjn; rw [bset_same, (y.hz _ (Nat.le_refl _)).1]; exact z
  ·rw [bset_ne hjn]; exact (xm.ms j (by omega)).kp o.k (Off.non _)
end
end Go.Proofs.YtcnphhhcknhhaaaGreat
namespace Go.Proofs.YtcnphhhcknhhaaaGreat
open Go Go.Den Go.MapKept
set_option linter.unusedSimpArgs false
set_option linter.unusedVariables false
set_option maxRecDepth 20000
def crC (c : Cfg) (wv hv tv : Value) : List Value := cfgC c ++ [wv, hv, tv]
def OpsR (h : Heap) (c : List Value) (l : List OpD) : Prop := ∃ v, c = [v] ∧ Sl 7 OpR h v l
theorem OpsR.ext {h h' : Heap} {c : List Value} {l : List OpD} (e : Ext h h') (x : OpsR h c l) : OpsR h' c l := by
 obtain ⟨v, h1, h2⟩ := x
 exact ⟨v, h1, h2.ext (@OpR.ext) e⟩
theorem OpsR.at {F : Heap} {v : Value} {ls : List (List OpD)} (x : Sl 1 OpsR F v ls) {i : Nat} (hi : i < ls.length) : ∃ b q u, iaV (some (none, 1)) v (.int .i64 i) = some (.pointer (some ⟨b, q, none⟩)) ∧ (∀ h', Ext F h' → cel h' b q = some u) ∧ Sl 7 OpR F u ls[i] := by
 obtain ⟨b, o, c, i1, i2, i3⟩ := x.at (k := .i64) (i := i) (by omega) (by omega)
 simp -implicitDefEqProofs only [Int.toNat_natCast] at i3
 obtain ⟨u, rfl, hu⟩ := i3
 refine ⟨b, o, u, i1, fun h' e => ?_, hu⟩
 have := (cels_get (cels_ext e i2)).2 0 (by simp)
 simpa using this
structure CrX (h : Heap) (c : Cfg) (ws : List OpD) (hs : List (List OpD)) (ts : List Int) (wv hv tv : Value) : Prop where
 w : Sl 7 OpR h wv ws
 hd : Sl 1 OpsR h hv hs
 t : Sl 1 (IntR .u8) h tv ts
theorem CrX.ext {h h' : Heap} {c : Cfg} {ws : List OpD} {hs : List (List OpD)} {ts : List Int} {wv hv tv : Value} (x : CrX h c ws hs ts wv hv tv) (e : Ext h h') : CrX h' c ws hs ts wv hv tv := ⟨x.w.ext (@OpR.ext) e, x.hd.ext (@OpsR.ext) e, x.t.ext (fun _ r => r) e⟩
structure Fits (c : Cfg) (ws : List OpD) (hs : List (List OpD)) (ts : List Int) : Prop where
 w : ws.length ≤ 4
 h : hs.length ≤ 4
 n : ws.length + hs.length ≠ 0
 t : ts.length ≤ 300
 r : rightB c = true
 sw : ∀ x ∈ ws, shortB x = true
 lh : ∀ l ∈ hs, l.length ≤ 60
 sh : ∀ l ∈ hs, ∀ x ∈ l, shortB x = true
variable {K : Value → Heap → Prop}
set_option maxHeartbeats 1000000 in
theorem fits17_ok (c : Cfg) (ws : List OpD) (hs : List (List OpD)) (ts : List Int) {h : Heap} {wv hv tv : Value} (x : CrX h c ws hs ts wv hv tv) (hk : ∀ h' b, Ext h h' → (b = true → Fits c ws hs ts) → K (.bool b) h') : callM P qgdZ #[.agg (crC c wv hv tv).toArray] h K := by
 apply qqeZ
 unfold qgQZ
 have wl := x.w.len
 have hl := x.hd.len
 have tl := x.t.len
 refine nw_agg fun v1 h1 n1 e1 c1 => ?_
 have c7 : cel h1 v1 7 = some wv := by simp [cel_of c1, crC, cfgC]
 have c8 : cel h1 v1 8 = some hv := by simp [cel_of c1, crC, cfgC]
 have c9 : cel h1 v1 9 = some tv := by simp [cel_of c1, crC, cfgC]
 have og : ldV (some (some 7)) (ptr v1) h1 = some (.agg (cfgC c).toArray) := by simp [ld_at c1, crC, cfgC]
 have no : K (.bool false) h1 := hk _ _ e1 (fun h => by cases h)
 by_cases a1 : ws.length ≤ 4
 rotate_left
 ·have a1' : (4 : Int) < ws.length := by omega
  simp -implicitDefEqProofs [c7, wl, a1']; exact no
 have a1' : ¬ (4 : Int) < ws.length := by omega
 by_cases a2 : hs.length ≤ 4
 rotate_left
 ·have a2' : (4 : Int) < hs.length := by omega
  simp -implicitDefEqProofs [c7, c8, wl, hl, a1', a2']; exact no
 have a2' : ¬ (4 : Int) < hs.length := by omega
 have hw : IntKind.i64.wrap ((ws.length : Int) + hs.length) = (ws.length + hs.length : Int) := wrap64_id (by omega) (by omega)
 by_cases a3 : ws.length + hs.length = 0
 ·have a3' : (ws.length : Int) + hs.length = 0 := by omega
  have hw0 : IntKind.i64.wrap 0 = 0 := wrap64_id (by omega) (by omega)
  simp -implicitDefEqProofs [c7, c8, wl, hl, a1', a2', a3', hw0]; exact no
 have a3' : ¬ (ws.length : Int) + hs.length = 0 := by omega
 by_cases a4 : ts.length ≤ 300
 rotate_left
 ·have a4' : (300 : Int) < ts.length := by omega
  simp -implicitDefEqProofs [c7, c8, c9, wl, hl, tl, a1', a2', hw, a3', a4']; exact no
 have a4' : ¬ (300 : Int) < ts.length := by omega
 simp -implicitDefEqProofs [c7, c8, c9, wl, hl, tl, a1', a2', hw, a3', a4', og]
 refine refRight_ok c fun h2 e2 => ?_
 have e02 := e1.trans e2
 have c7 : ∀ h', Ext h2 h' → cel h' v1 7 = some wv := fun h' e => by simp [cel_of (e _ _ (e2 _ _ c1)), crC, cfgC]
 have c8 : ∀ h', Ext h2 h' → cel h' v1 8 = some hv := fun h' e => by simp [cel_of (e _ _ (e2 _ _ c1)), crC, cfgC]
 cases hr : rightB c with
 | false => simp; exact hk _ _ e02 (fun h => by cases h)
 | true =>
 simp -implicitDefEqProofs
 unfold qjLZ
 rw [seqM_eq]
 unfold qjIZ
 refine loop_on [1] (fun s h' => Ext h2 h' ∧ ∃ i : Nat, i ≤ ws.length ∧ s 3 = .int .i64 i ∧ ∀ x ∈ ws.take i, shortB x = true) (fun s _ => (ws.length - num (s 3)).toNat) ⟨Ext.refl _, 0, by omega, rfl, by simp⟩ ?_
 rintro s h4 hf ⟨e4, i, hi, s3, hall⟩
 have s1 : s 1 = ptr v1 := by simpa using hf 1 (by simp)
 unfold qjHZ
 simp -implicitDefEqProofs [s1, c7 _ e4, wl, s3]
 refine ⟨fun hc => ?_, fun hc => ?_⟩
 ·have hlt : i < ws.length := by omega
  have hw1 : IntKind.i64.wrap ((i : Int) + 1) = (i + 1 : Nat) := by rw [wrap64_id (by omega) (by omega)]; omega
  obtain ⟨b, p, u, i1, i2, i3, i4⟩ := opsAt x.w hlt
  unfold qjGZ
  simp -implicitDefEqProofs [s1, c7 _ e4, s3, i1, i2 _ (e02.trans e4)]
  refine short_ok ws[i] (i3.ext (@StrR.ext) (e02.trans e4)) fun h5 e5 => ?_
  unfold qjFZ
  cases hs' : shortB ws[i] with
  | false =>
   simp -implicitDefEqProofs
   unfold qjDZ
   simp -implicitDefEqProofs
   exact hk _ _ ((e02.trans e4).trans e5) (fun h => by cases h)
  | true =>
   simp -implicitDefEqProofs
   unfold qjEZ
   simp -implicitDefEqProofs [s1, s3, hw1, -Int.natCast_add]
   refine ⟨⟨e4.trans e5, i + 1, by omega, rfl, fun y hy => ?_⟩, by omega⟩
   rw [List.take_succ_eq_append_getElem hlt, List.mem_append, List.mem_singleton] at hy
   rcases hy with hy | rfl
   ·exact hall y hy
   ·exact hs'
 have hie : i = ws.length := by omega
 subst hie
 rw [List.take_of_length_le (Nat.le_refl _)] at hall
 unfold qjKZ
 rw [seqM_eq]
 unfold qjJZ
 refine loop_on [1] (fun s h' => Ext h2 h' ∧ ∃ i : Nat, i ≤ hs.length ∧ s 4 = .int .i64 i ∧ ∀ l ∈ hs.take i, l.length ≤ 60 ∧ ∀ x ∈ l, shortB x = true) (fun s _ => (hs.length - num (s 4)).toNat) ⟨e4, 0, by omega, rfl, by simp⟩ ?_
 clear s3
 rintro r h5 hf5 ⟨e5, i, hi, r4, hal2⟩
 have r1 : r 1 = ptr v1 := by simpa [s1] using hf5 1 (by simp)
 unfold qiPZ
 simp -implicitDefEqProofs [r1, c8 _ e5, hl, r4]
 refine ⟨fun hc => ?_, fun hc => ?_⟩
 rotate_left
 ·have hie : i = hs.length := by omega
  subst hie
  rw [List.take_of_length_le (Nat.le_refl _)] at hal2
  exact hk _ _ (e02.trans e5) fun _ => ⟨a1, a2, a3, a4, hr, hall, fun l hl => (hal2 l hl).1, fun l hl => (hal2 l hl).2⟩
 have hlt : i < hs.length := by omega
 have hw1 : IntKind.i64.wrap ((i : Int) + 1) = (i + 1 : Nat) := by rw [wrap64_id (by omega) (by omega)]; omega
 obtain ⟨b, q, u, i1, i2, i3⟩ := OpsR.at x.hd hlt
 have ul := i3.len
 unfold qiOZ
 rw [seqM_eq]
 unfold qiNZ
 by_cases a6 : hs[i].length ≤ 60
 rotate_left
 ·have a6' : (60 : Int) < hs[i].length := by omega
  simp -implicitDefEqProofs [r1, c8 _ e5, r4, i1, i2 _ (e02.trans e5), ul, a6']
  unfold qiGZ
  simp -implicitDefEqProofs
  exact hk _ _ (e02.trans e5) (fun h => by cases h)
 have a6' : ¬ (60 : Int) < hs[i].length := by omega
 simp -implicitDefEqProofs [r1, c8 _ e5, r4, i1, i2 _ (e02.trans e5), ul, a6']
 unfold qiMZ
 refine loop_on [1, 4] (fun s h' => Ext h2 h' ∧ ∃ j : Nat, j ≤ hs[i].length ∧ s 5 = .int .i64 j ∧ ∀ x ∈ hs[i].take j, shortB x = true) (fun s _ => (hs[i].length - num (s 5)).toNat) ⟨e5, 0, by omega, rfl, by simp⟩ ?_
 rintro t h6 hf6 ⟨e6, j, hj, t5, hal3⟩
 have t1 : t 1 = ptr v1 := by simpa [r1] using hf6 1 (by simp)
 have t4 : t 4 = .int .i64 i := by simpa [r4] using hf6 4 (by simp)
 unfold qiLZ
 simp -implicitDefEqProofs [t1, c8 _ e6, t4, i1, i2 _ (e02.trans e6), ul, t5]
 refine ⟨fun hc => ?_, fun hc => ?_⟩
 ·have hlj : j < hs[i].length := by omega
  have hw2 : IntKind.i64.wrap ((j : Int) + 1) = (j + 1 : Nat) := by rw [wrap64_id (by omega) (by omega)]; omega
  obtain ⟨b2, p2, u2, j1, j2, j3, j4⟩ := opsAt i3 hlj
  unfold qiKZ
  simp -implicitDefEqProofs [t1, c8 _ e6, t4, i1, i2 _ (e02.trans e6), t5, j1, j2 _ (e02.trans e6)]
  refine short_ok hs[i][j] (j3.ext (@StrR.ext) (e02.trans e6)) fun h7 e7 => ?_
  unfold qiJZ
  cases hs' : shortB hs[i][j] with
  | false =>
   simp -implicitDefEqProofs
   unfold qiHZ
   simp -implicitDefEqProofs
   exact hk _ _ ((e02.trans e6).trans e7) (fun h => by cases h)
  | true =>
   simp -implicitDefEqProofs
   unfold qiIZ
   simp -implicitDefEqProofs [r1, r4, t1, t4, t5, hw2, -Int.natCast_add]
   refine ⟨⟨e6.trans e7, j + 1, by omega, rfl, fun y hy => ?_⟩, by omega⟩
   rw [List.take_succ_eq_append_getElem hlj, List.mem_append, List.mem_singleton] at hy
   rcases hy with hy | rfl
   ·exact hal3 y hy
   ·exact hs'
 have hje : j = hs[i].length := by omega
 subst hje
 rw [List.take_of_length_le (Nat.le_refl _)] at hal3
 simp -implicitDefEqProofs [r1, s1, t1, t4, hw1, -Int.natCast_add]
 refine ⟨⟨e6, i + 1, by omega, rfl, fun l hl => ?_⟩, by omega⟩
 rw [List.take_succ_eq_append_getElem hlt, List.mem_append, List.mem_singleton] at hl
 rcases hl with hl | rfl
 ·exact hal2 l hl
 ·exact ⟨a6, hal3⟩
end Go.Proofs.YtcnphhhcknhhaaaGreat
namespace Go.Proofs.YtcnphhhcknhhaaaGreat
open Go Go.Den Go.MapKept
set_option linter.unusedSimpArgs false
set_option linter.unusedVariables false
set_option maxRecDepth 20000
def pollO : OpD := ⟨8, ⟨#[]⟩, 0, 0, 0, 0, []⟩
theorem pollW : OpW pollO := ⟨by simp [pollO, I64], by simp [pollO, I64], by simp [pollO, I64], by simp [pollO, I64], by simp [pollO, U64], by simp [pollO, maxLen]; decide⟩
theorem bdOpPoll : bdV (binf P qCZ) [(0, .int .i64 8)] = some (.agg (opC pollO (.slice none 0 0)).toArray) := by kernel_rfl
def aw17 : Nat → HP × Mine × Hall
 | 0 => (hp0 (hall0 small 3) 0 pollO, [], hall0 small 3)
 | n + 1 => (aw17 n).1.step (aw17 n).2.1 (aw17 n).2.2 n
theorem aw17_done : ∀ n, n ≤ 10 → ((aw17 n).1.done = true ↔ n = 10) := by decide +kernel
theorem aw17_end : (aw17 10).1.placed = 3 := by decide +kernel
def Aw17 (T0 : Tags) (h0 : Heap) (hp pp mp : Nat) (v : Value) (h' : Heap) : Prop :=
 ∃ (T' : Tags) (k : Nat) (W : Wd) (M : Tbl), Only UH T0 h0 T' h' ∧ HdM T' h' hp (fun _ => pp) (fun _ => mp) 1 W ∧ WdK k W M ∧ W.H = (aw17 k).2.2 ∧ W.ps 0 = some (.h (aw17 k).1) ∧ W.ms 0 = (aw17 k).2.1 ∧ (∀ j, j ≠ 0 → W.ps j = none) ∧ v = .int .i64 k ∧ k ≤ 10
variable {K : Value → Heap → Prop}
set_option maxHeartbeats 1000000 in
theorem awake17_ok {h : Heap} (hk : ∀ h', Ext h h' → K (.bool true) h') : callM P qdaZ #[] h K := by
 apply qptZ
 unfold qgoZ
 refine small_ok fun h1 e1 => ?_
 unfold qiFZ
 have w1 := wf_nil h1
 refine hallNew_ok small smallW w1 g1 (fun hr T2 h2 q o2 y2 => ?_) (fun hr => by simp [rightB, small] at hr)
 have hn3 : small.stripes.toNat = 3 := by decide
 have r2 := RH.init smallW hr o2.wf y2 (fun _ => 0)
 rw [hn3] at r2 y2
 unfold qiEZ
 have enil : binV .eql 4 true (ptr q) (.pointer none) = some (.bool false) := rfl
 simp -implicitDefEqProofs [enil]
 unfold qiDZ
 refine newMine_ok o2.wf (g5i 0) fun T3 h3 mp o3 n3 z3 => ?_
 have r3 := rh_mine r2 o3 z3
 unfold qiCZ
 rw [bdOpPoll]
 simp -implicitDefEqProofs only [ov_s]
 obtain ⟨A, x3⟩ := r3.x
 have hB : bset (fun _ => 0) 0 mp 0 = mp := rfl
 have h6 : badB pollO = false → 6 ≤ pollO.kind := fun _ => by simp [pollO]
 have := hdnew_h (i := 0) (by omega) pollO pollW (by simp [pollO]) h6 (v := .slice none 0 0) (.inl ⟨rfl, _, _, rfl⟩) o3.wf x3 r3.k (fun p h => by simp [wd0] at h) (K := fun v19 h20 => qfaZ (.agg (cfgC small).toArray) (.tuple #[ptr q, .int .i64 0]) (ptr q) (.int .i64 0) (.bool false) (ptr q) (.bool false) (.bool false) (ptr mp) (.agg (opC pollO (.slice none 0 0)).toArray) v19 h20 K)
 rw [hB] at this
 refine this fun T4 h4 p o4 x4 k4 => ?_
 clear this
 have o0 : Only UH (fun _ => []) h1 T4 h4 := ((o2.mono fun _ => UH.i1).up o3 non_up).trans o4
 unfold qfaZ
 rw [seqM_eq]
 unfold qiBZ
 refine loop_on [1, 3] (fun s h' => Aw17 T4 h4 q p mp (s 4) h') (fun s _ => (20 - num (s 4)).toNat) ⟨T4, 0, _, _, Only.refl o4.wf, ⟨x4.hl, fun i r hr => ?_, fun i hi => ?_⟩, k4, rfl, rfl, rfl, fun j hj => ?_, rfl, by omega⟩ ?_
 ·by_cases hi : i = 0
  ·subst hi; exact x4.ps 0 r hr
  ·have hr : bset (wd0 small 3).ps 0 (some (.h (hp0 (hall0 small 3) 0 pollO))) i = some r := hr
   rw [bset_ne hi] at hr; simp [wd0] at hr
 ·have hi0 : i = 0 := by omega
  subst hi0
  exact x4.ms 0 (by omega)
 ·show bset (wd0 small 3).ps 0 _ j = none
  rw [bset_ne hj]; rfl
 rintro s h4' hf ⟨T4', k, W, M, o4', x4', k4', hH, hP, hM, hO, s4, hk7⟩
 have s1 : s 1 = ptr q := by simpa using hf 1 (by simp)
 have s3 : s 3 = ptr p := by simpa using hf 3 (by simp)
 have hw : IntKind.i64.wrap ((k : Int) + 1) = (k + 1 : Nat) := by rw [wrap64_id (by omega) (by omega)]; omega
 have hd := aw17_done k hk7
 have hn20 : (k : Int) < 20 := by omega
 have xp := x4'.ps 0 _ hP
 unfold qiAZ
 simp -implicitDefEqProofs [s4, s3, hn20]
 refine hedone_ok xp ?_
 by_cases h7 : k = 10
 ·subst h7
  rw [hd.2 rfl]
  simp -implicitDefEqProofs [s3, s4]
  unfold qhXZ
  simp -implicitDefEqProofs [s3, s4]
  refine heplaced_ok xp ?_
  rw [aw17_end]
  simp -implicitDefEqProofs [s1, s3, s4]
  exact hk _ (e1.trans (ext_of_only (o0.trans o4') UH.nil))
 ·have hdf : (aw17 k).1.done = false := by
   cases hh : (aw17 k).1.done with
   | false => rfl
   | true => exact absurd (hd.1 hh) h7
  rw [hdf]
  simp -implicitDefEqProofs
  unfold qizZ
  simp -implicitDefEqProofs only [s3, s1, s4]
  refine hdstep_h (i := 0) (A := fun _ => p) (B := fun _ => mp) (hp := q) (W := W) (p := (aw17 k).1) (k : Int) o4'.wf x4' k4' (by omega) (by omega) hP fun T6 h6 o6 x6 => ?_
  unfold qiyZ
  simp -implicitDefEqProofs [s1, s3, s4, hw, -Int.natCast_add]
  have hst : W.step 0 k = ⟨((aw17 k).1.step (aw17 k).2.1 (aw17 k).2.2 k).2.2, bset W.ps 0 (some (.h ((aw17 k).1.step (aw17 k).2.1 (aw17 k).2.2 k).1)), bset W.ms 0 ((aw17 k).1.step (aw17 k).2.1 (aw17 k).2.2 k).2.1⟩ := by
   simp -implicitDefEqProofs only [Wd.step, hP, PR.step, hH, hM]
  refine ⟨⟨T6, k + 1, _, _, o4'.trans o6, x6, k4'.step (by omega) hP k, by rw [hst]; rfl, by rw [hst]; rfl, by rw [hst]; rfl, fun j hj => ?_, rfl, by omega⟩, by omega⟩
  rw [hst]
  show bset W.ps 0 _ j = none
  rw [bset_ne hj]; exact hO j hj
end Go.Proofs.YtcnphhhcknhhaaaGreat
namespace Go.Proofs.YtcnphhhcknhhaaaGreat
open Go Go.Den Go.MapKept
set_option linter.unusedSimpArgs false
set_option linter.unusedVariables false
set_option maxRecDepth 20000
theorem hLen_le {N : Nat} (h : N ≤ 8) (x : OpD) : 1 ≤ hLen N x ∧ hLen N x ≤ 25 := by
 unfold hLen
 split
 ·omega
 ·split <;> omega
theorem short_users {x : OpD} (h : shortB x = true) : x.users.length ≤ 20 := by simp [shortB] at h; exact h.2.1
end Go.Proofs.YtcnphhhcknhhaaaGreat
namespace Go.Proofs.YtcnphhhcknhhaaaGreat
open Go Go.Den
set_option maxRecDepth 100000
set_option linter.unusedVariables false
set_option maxHeartbeats 40000000
def qfzZ (s70 : Env) (q72 : Post) (m : List Nat) (v73 v74 : Value) (h75 : Heap) : Prop := ov (binV BinOp.add 2 true (s70 6) (Value.int IntKind.i64 1)) fun v76 => ov (binV BinOp.add 2 true (s70 10) (Value.int IntKind.i64 1)) fun v77 => q72 .normal m (puts s70 [(59, (s70 10)), (60, v73), (63, (s70 9)), (64, (s70 3)), (65, (s70 6)), (66, v74), (67, (s70 6)), (68, v76), (6, v76), (61, (s70 10)), (62, v77), (10, v77)]) h75
def qfAZ (s70 : Env) (h71 : Heap) (q72 : Post) (m : List Nat) (v73 : Value) : Prop := callM P qagZ #[(s70 9), (s70 3), (s70 6)] h71 fun v74 h75 => qfzZ s70 q72 m v73 v74 h75
def qfBZ (s70 : Env) (h71 : Heap) (q72 : Post) (m : List Nat) : Prop := ov (binV BinOp.lss 2 true (s70 10) (Value.int IntKind.i64 4)) fun v73 => cdM v73 (qfAZ s70 h71 q72 m v73) (q72 (.exit 4) m (puts s70 [(59, (s70 10)), (60, v73)]) h71)
def qfCZ (m : List Nat) (s55 : Env) (v58 v62 v63 v64 v65 v66 v67 v68 : Value) (h69 : Heap) (q59 : Post) : Prop := loopM (fun m s70 h71 q72 => qfBZ s70 h71 q72 m) m (puts s55 [(45, (s55 8)), (46, v58), (49, (s55 3)), (50, (s55 5)), (51, v62), (52, v63), (53, (s55 7)), (54, v64), (55, v65), (56, v66), (57, v67), (58, v68), (9, v68), (10, (Value.int IntKind.i64 0))]) h69 (blkM 4 (blkM 3 q59))
def qfDZ (s55 : Env) (h56 : Heap) (m : List Nat) (v58 : Value) (q59 : Post) : Prop := ov (faV (some 7) (s55 1)) fun v62 => ov (ldV (some none) v62 h56) fun v63 => ov (iaV (some (none, 7)) v63 (s55 7)) fun v64 => ov (faV (some 1) v64) fun v65 => ov (ldV (some none) v65 h56) fun v66 => ov (bdV (binf P qCZ) [(0, (Value.int IntKind.i64 6)), (1, v66)]) fun v67 => callM P qeYZ #[(s55 3), (s55 5), (Value.int IntKind.i64 0), v67] h56 fun v68 h69 => qfCZ m s55 v58 v62 v63 v64 v65 v66 v67 v68 h69 q59
def qfEZ (s55 : Env) (h56 : Heap) (m : List Nat) (v58 : Value) (q57 : Post) : Prop := seqM (fun q59 => qfDZ s55 h56 m v58 q59) (fun m s60 h61 => ov (binV BinOp.add 2 true (s60 8) (Value.int IntKind.i64 1)) fun v78 => q57 .normal m (puts s60 [(47, (s60 8)), (48, v78), (8, v78)]) h61) q57
def qfFZ (s55 : Env) (h56 : Heap) (m : List Nat) (q57 : Post) : Prop := ov (binV BinOp.lss 2 true (s55 8) (Value.int IntKind.i64 2)) fun v58 => cdM v58 (qfEZ s55 h56 m v58 q57) (q57 (.exit 2) m (puts s55 [(45, (s55 8)), (46, v58)]) h56)
def qfGZ (m : List Nat) (s42 : Env) (v45 v46 v47 v48 : Value) (h43 : Heap) (q52 : Post) : Prop := loopM (fun m s55 h56 q57 => qfFZ s55 h56 m q57) m (puts s42 [(38, (s42 7)), (39, v45), (40, v46), (41, v47), (42, v48), (8, (Value.int IntKind.i64 0))]) h43 (blkM 2 q52)
def qfHZ (s87 : Env) (q89 : Post) (m : List Nat) (v90 v91 : Value) (h92 : Heap) : Prop := ov (binV BinOp.add 2 true (s87 6) (Value.int IntKind.i64 1)) fun v93 => ov (binV BinOp.add 2 true (s87 12) (Value.int IntKind.i64 1)) fun v94 => q89 .normal m (puts s87 [(77, (s87 12)), (78, v90), (81, (s87 11)), (82, (s87 3)), (83, (s87 6)), (84, v91), (85, (s87 6)), (86, v93), (6, v93), (79, (s87 12)), (80, v94), (12, v94)]) h92
def qfIZ (s87 : Env) (h88 : Heap) (q89 : Post) (m : List Nat) (v90 : Value) : Prop := callM P qcCZ #[(s87 11), (s87 3), (s87 6)] h88 fun v91 h92 => qfHZ s87 q89 m v90 v91 h92
def qfJZ (s87 : Env) (h88 : Heap) (q89 : Post) (m : List Nat) : Prop := ov (binV BinOp.lss 2 true (s87 12) (Value.int IntKind.i64 7)) fun v90 => cdM v90 (qfIZ s87 h88 q89 m v90) (q89 (.exit 6) m (puts s87 [(77, (s87 12)), (78, v90)]) h88)
def qfKZ (m : List Nat) (s53 : Env) (v79 v80 v81 v82 v83 v85 : Value) (h86 : Heap) (q49 : Post) : Prop := loopM (fun m s87 h88 q89 => qfJZ s87 h88 q89 m) m (puts s53 [(69, (s53 3)), (70, v79), (71, v80), (72, (s53 7)), (73, v81), (74, v82), (75, v83), (76, v85), (11, v85), (12, (Value.int IntKind.i64 0))]) h86 (blkM 6 (blkM 1 q49))
def qfLZ (s53 : Env) (v83 : Value) (h84 : Heap) (m : List Nat) (v79 v80 v81 v82 : Value) (q49 : Post) : Prop := callM P qhlZ #[(s53 3), (Value.int IntKind.i64 1), v83] h84 fun v85 h86 => qfKZ m s53 v79 v80 v81 v82 v83 v85 h86 q49
def qfMZ (s53 : Env) (h54 : Heap) (m : List Nat) (q49 : Post) : Prop := ov (faV (some 7) (s53 1)) fun v79 => ov (ldV (some none) v79 h54) fun v80 => ov (iaV (some (none, 7)) v80 (s53 7)) fun v81 => ov (ldV (some (some 7)) v81 h54) fun v82 => callM P qeJZ #[v82] h54 fun v83 h84 => qfLZ s53 v83 h84 m v79 v80 v81 v82 q49
def qgCZ (m : List Nat) (s42 : Env) (v45 v46 v47 v48 : Value) (h43 : Heap) (q49 : Post) : Prop := seqM (fun q52 => qfGZ m s42 v45 v46 v47 v48 h43 q52) (fun m s53 h54 => qfMZ s53 h54 m q49) (blkM 1 q49)
def qgDZ (m : List Nat) (s42 : Env) (v45 v46 v47 v48 : Value) (h43 : Heap) (q44 : Post) : Prop := seqM (fun q49 => qgCZ m s42 v45 v46 v47 v48 h43 q49) (fun m s50 h51 => ov (binV BinOp.add 2 true (s50 7) (Value.int IntKind.i64 1)) fun v95 => q44 .normal m (puts s50 [(43, (s50 7)), (44, v95), (7, v95)]) h51) q44
def qgEZ (s42 : Env) (h43 : Heap) (m : List Nat) (q44 : Post) : Prop := ov (faV (some 7) (s42 1)) fun v45 => ov (ldV (some none) v45 h43) fun v46 => ov (lnV 7 v46) fun v47 => ov (binV BinOp.lss 2 false (s42 7) v47) fun v48 => cdM v48 (qgDZ m s42 v45 v46 v47 v48 h43 q44) (q44 (.exit 0) m (puts s42 [(38, (s42 7)), (39, v45), (40, v46), (41, v47), (42, v48)]) h43)
def qgFZ (x0 v1 v3 v5 v6 v10 v15 v19 v22 v23 v24 v26 v27 v28 v29 v32 v36 v37 : Value) (h38 : Heap) (q39 : Post) : Prop := loopM (fun m s42 h43 q44 => qgEZ s42 h43 m q44) [] (puts (envOf [x0]) [(1, v1), (2, (Value.bool false)), (17, v3), (18, v5), (19, v5), (20, v6), (21, v10), (22, v15), (23, v19), (26, v22), (27, v23), (28, v24), (25, v24), (29, v26), (30, v27), (3, v26), (4, v27), (31, v27), (32, v28), (33, v28), (34, v29), (35, v32), (36, v36), (37, v37), (5, v37), (6, (Value.int IntKind.i64 0)), (7, (Value.int IntKind.i64 0))]) h38 (blkM 0 q39)
def qfNZ (s114 : Env) (q116 : Post) (m : List Nat) (v117 v118 v119 v120 v121 v122 v123 : Value) (h124 : Heap) : Prop := ov (binV BinOp.add 2 true (s114 6) (Value.int IntKind.i64 1)) fun v125 => ov (binV BinOp.add 2 true (s114 16) (Value.int IntKind.i64 1)) fun v126 => q116 .normal m (puts s114 [(95, (s114 16)), (96, v117), (97, v118), (98, v119), (99, v120), (100, v121), (101, v122), (104, (s114 15)), (105, (s114 3)), (106, (s114 6)), (107, v123), (108, (s114 6)), (109, v125), (6, v125), (102, (s114 16)), (103, v126), (16, v126)]) h124
def qfOZ (s114 : Env) (h115 : Heap) (q116 : Post) (m : List Nat) (v117 v118 v119 v120 v121 v122 : Value) : Prop := callM P qagZ #[(s114 15), (s114 3), (s114 6)] h115 fun v123 h124 => qfNZ s114 q116 m v117 v118 v119 v120 v121 v122 v123 h124
def qfPZ (s114 : Env) (h115 : Heap) (q116 : Post) (m : List Nat) : Prop := ov (faV (some 0) (s114 1)) fun v117 => ov (faV (some 0) v117) fun v118 => ov (ldV (some none) v118 h115) fun v119 => ov (binV BinOp.mul 2 true (Value.int IntKind.i64 3) v119) fun v120 => ov (binV BinOp.add 2 true v120 (Value.int IntKind.i64 1)) fun v121 => ov (binV BinOp.lss 2 false (s114 16) v121) fun v122 => cdM v122 (qfOZ s114 h115 q116 m v117 v118 v119 v120 v121 v122) (q116 (.exit 10) m (puts s114 [(95, (s114 16)), (96, v117), (97, v118), (98, v119), (99, v120), (100, v121), (101, v122)]) h115)
def qfQZ (m : List Nat) (s101 : Env) (v104 v108 v109 : Value) (h110 : Heap) (q111 : Post) : Prop := loopM (fun m s114 h115 q116 => qfPZ s114 h115 q116 m) m (puts s101 [(87, (s101 14)), (88, v104), (91, (s101 3)), (92, (s101 5)), (93, v108), (94, v109), (15, v109), (16, (Value.int IntKind.i64 0))]) h110 (blkM 10 q111)
def qfRZ (s112 : Env) (v130 : Value) (h131 : Heap) (q105 : Post) (m : List Nat) (v127 v129 : Value) : Prop := ov (iaV (some (some 2, 4)) (s112 13) (s112 14)) fun v132 => stM (some 4) v132 v130 h131 fun h133 => q105 .normal m (puts s112 [(110, (s112 15)), (111, v127), (112, v129), (113, (s112 14)), (114, (s112 15)), (115, v130), (116, v132)]) h133
def qfSZ (s112 : Env) (h128 : Heap) (q105 : Post) (m : List Nat) (v127 v129 : Value) : Prop := callM P qhpZ #[(s112 15)] h128 fun v130 h131 => qfRZ s112 v130 h131 q105 m v127 v129
def qfTZ (v127 : Value) (q105 : Post) (m : List Nat) (s112 : Env) (h128 : Heap) : Prop := ov (unV UnOp.not v127) fun v129 => cdM v129 (q105 .ret m (puts s112 [(110, (s112 15)), (111, v127), (112, v129), (2, (Value.bool false))]) h128) (qfSZ s112 h128 q105 m v127 v129)
def qfUZ (s112 : Env) (h113 : Heap) (q105 : Post) (m : List Nat) : Prop := callM P qaKZ #[(s112 15)] h113 fun v127 h128 => qfTZ v127 q105 m s112 h128
def qfVZ (m : List Nat) (s101 : Env) (v104 v108 v109 : Value) (h110 : Heap) (q105 : Post) : Prop := seqM (fun q111 => qfQZ m s101 v104 v108 v109 h110 q111) (fun m s112 h113 => qfUZ s112 h113 q105 m) (blkM 9 q105)
def qfWZ (s101 : Env) (h102 : Heap) (m : List Nat) (v104 : Value) (q105 : Post) : Prop := ov (bdV (binf P qCZ) [(0, (Value.int IntKind.i64 8))]) fun v108 => callM P qeYZ #[(s101 3), (s101 5), (Value.int IntKind.i64 0), v108] h102 fun v109 h110 => qfVZ m s101 v104 v108 v109 h110 q105
def qfXZ (s101 : Env) (h102 : Heap) (m : List Nat) (v104 : Value) (q103 : Post) : Prop := seqM (fun q105 => qfWZ s101 h102 m v104 q105) (fun m s106 h107 => ov (binV BinOp.add 2 true (s106 14) (Value.int IntKind.i64 1)) fun v134 => q103 .normal m (puts s106 [(89, (s106 14)), (90, v134), (14, v134)]) h107) q103
def qfYZ (s101 : Env) (h102 : Heap) (m : List Nat) (q103 : Post) : Prop := ov (binV BinOp.lss 2 true (s101 14) (Value.int IntKind.i64 2)) fun v104 => cdM v104 (qfXZ s101 h102 m v104 q103) (q103 (.exit 8) m (puts s101 [(87, (s101 14)), (88, v104)]) h102)
def qfZZ (m : List Nat) (s40 : Env) (v96 : Value) (h97 : Heap) (q98 : Post) : Prop := loopM (fun m s101 h102 q103 => qfYZ s101 h102 m q103) m (puts s40 [(13, v96), (14, (Value.int IntKind.i64 0))]) h97 (blkM 8 q98)
def qgaZ (v138 : Value) (s99 : Env) (h139 : Heap) (K : Value → Heap → Prop) (m : List Nat) (v135 v136 v137 : Value) : Prop := gv (isB v138 true) (ov (iaV (some (some 2, 4)) (s99 13) (Value.int IntKind.i64 0))) fun v140 => gv (isB v138 true) (ov (faV (some 0) v140)) fun v141 => gv (isB v138 true) (ov (ldV (some none) v141 h139)) fun v142 => gv (isB v138 true) (ov (binV BinOp.eql 2 true v142 (Value.int IntKind.i64 0))) fun v143 => ov (pkV v138 v143 (Value.bool false)) fun v144 => gv (isB v144 true) (fun k => k (s99 5)) fun v145 => gv (isB v144 true) (ov (faV (some 0) (s99 1))) fun v146 => gv (isB v144 true) (ov (faV (some 3) v146)) fun v147 => gv (isB v144 true) (ov (ldV (some none) v147 h139)) fun v148 => gM (isB v144 true) (fun k151 => callM P qeMZ #[v145] h139 fun v152 h153 => k151 v152 h153) h139 fun v149 h150 => ((isB v144 true) = true → ldV (some none) v147 h150 = some v148) ∧ gv (isB v144 true) (ov (binV BinOp.leq 2 false v149 v148)) fun v154 => ov (pkV v144 v154 (Value.bool false)) fun v155 => (retM P [.tmp 2] K) .ret m (puts s99 [(117, v135), (118, v136), (119, v137), (120, v138), (121, v138), (122, v140), (123, v141), (124, v142), (125, v143), (126, v144), (127, v144), (128, v145), (130, v146), (131, v147), (132, v148), (129, v149), (133, v154), (134, v155), (2, v155)]) h150
def qgbZ (s99 : Env) (h100 : Heap) (K : Value → Heap → Prop) (m : List Nat) : Prop := ov (iaV (some (some 2, 4)) (s99 13) (Value.int IntKind.i64 1)) fun v135 => ov (ldV (some (some 4)) v135 h100) fun v136 => ov (bdV (binf P quZ) []) fun v137 => callM P qgeZ #[v136, v137] h100 fun v138 h139 => qgaZ v138 s99 h139 K m v135 v136 v137
def qgcZ (h41 : Heap) (m : List Nat) (s40 : Env) (K : Value → Heap → Prop) : Prop := nwM (zc P ty_2_api_Reply) ty_2_api_Reply h41 fun v96 h97 => seqM (fun q98 => qfZZ m s40 v96 h97 q98) (fun m s99 h100 => qgbZ s99 h100 K m) (retM P [.tmp 2] K)
def qgGZ (x0 v1 v3 v5 v6 v10 v15 v19 v22 v23 v24 v26 v27 v28 v29 v32 v36 v37 : Value) (h38 : Heap) (K : Value → Heap → Prop) : Prop := seqM (fun q39 => qgFZ x0 v1 v3 v5 v6 v10 v15 v19 v22 v23 v24 v26 v27 v28 v29 v32 v36 v37 h38 q39) (fun m s40 h41 => qgcZ h41 m s40 K) (retM P [.tmp 2] K)
def qgHZ (h33 : Heap) (x0 v1 v3 v5 v6 v10 v15 v19 v22 v23 v24 v26 v27 v28 v29 v32 v36 : Value) (K : Value → Heap → Prop) : Prop := callM P qhgZ #[] h33 fun v37 h38 => qgGZ x0 v1 v3 v5 v6 v10 v15 v19 v22 v23 v24 v26 v27 v28 v29 v32 v36 v37 h38 K
def qgIZ (v24 : Value) (h25 : Heap) (K : Value → Heap → Prop) (x0 v1 v3 v5 v6 v10 v15 v19 v22 v23 : Value) : Prop := ov (exV v24 0) fun v26 => ov (exV v24 1) fun v27 => ov (binV BinOp.neq 2 true v27 (Value.int IntKind.i64 0)) fun v28 => gM (isB v28 false) (fun k31 => k31 v26 h25) h25 fun v29 h30 => gM (isB v28 false) (fun k34 => ov (binV BinOp.eql 4 true v29 (Value.pointer none)) fun v35 => k34 v35 h30) h30 fun v32 h33 => ov (pkV v28 (Value.bool true) v32) fun v36 => cdM v36 (K (Value.bool false) h33) (qgHZ h33 x0 v1 v3 v5 v6 v10 v15 v19 v22 v23 v24 v26 v27 v28 v29 v32 v36 K)
def qgJZ (v1 : Value) (h16 : Heap) (K : Value → Heap → Prop) (x0 v3 v5 v6 v10 v15 v19 : Value) : Prop := ov (faV (some 0) v1) fun v22 => ov (ldV (some (some 7)) v22 h16) fun v23 => callM P qmrZ #[v23] h16 fun v24 h25 => qgIZ v24 h25 K x0 v1 v3 v5 v6 v10 v15 v19 v22 v23
def qgKZ (v3 v1 : Value) (h4 : Heap) (K : Value → Heap → Prop) (x0 : Value) : Prop := ov (unV UnOp.not v3) fun v5 => gM (isB v5 false) (fun k8 => ov (ldV (some (some 10)) v1 h4) fun v9 => k8 v9 h4) h4 fun v6 h7 => gM (isB v5 false) (fun k12 => callM P qgdZ #[v6] h7 fun v13 h14 => k12 v13 h14) h7 fun v10 h11 => gM (isB v5 false) (fun k17 => ov (unV UnOp.not v10) fun v18 => k17 v18 h11) h11 fun v15 h16 => ov (pkV v5 (Value.bool true) v15) fun v19 => cdM v19 (callM P qdaZ #[] h16 fun v20 h21 => K v20 h21) (qgJZ v1 h16 K x0 v3 v5 v6 v10 v15 v19)
def qebZ (x0 : Value) (h : Heap) (K : Value → Heap → Prop) : Prop := nwM (some x0.cells) qgmZ h fun v1 h2 => callM P qdaZ #[] h2 fun v3 h4 => qgKZ v3 v1 h4 K x0
variable {K : Value → Heap → Prop}
theorem qnQZ {x0 : Value} {h : Heap} (hd : qebZ x0 h K) : callM P qdwZ #[x0] h K :=
 call_of good mixed (fn := Tryz.f19) (args := [x0]) Tryz.func19 rfl (by kernel_rfl) (of_decide_eq_true rfl) (B := qebZ x0 h K) (by kernel_rfl) hd
end Go.Proofs.YtcnphhhcknhhaaaGreat
namespace Go.Proofs.YtcnphhhcknhhaaaGreat
open Go Go.Den Go.MapKept
set_option linter.unusedSimpArgs false
set_option linter.unusedVariables false
set_option maxRecDepth 20000
theorem cel_of_ld {h : Heap} {b p n : Nat} {l : List Value} (h1 : ldV (some (some n)) (.pointer (some ⟨b, p, none⟩)) h = some (.agg l.toArray)) {i : Nat} (hi : i < n) (hl : l.length = n) : cel h b (p + i) = l[i]? := by
 simp -implicitDefEqProofs only [ldV] at h1
 cases hc : cels h b p n with
 | none => rw [hc] at h1; cases h1
 | some cs =>
  rw [hc] at h1
  have : cs = l := by simpa using h1
  subst this
  rw [(cels_get hc).2 i (by omega)]; exact (List.getElem?_eq_getElem (by omega)).symm
section
variable {T0 T' : Tags} {h0 h' : Heap} {hp q i k m N nm : Nat} {c : Cfg} {B : Nat → Nat} {W : Wd} {M M0 : Tbl} {x : OpD} {K : Value → Heap → Prop}
theorem ah_any {ms0 : Nat → Mine} (y : AhI T0 h0 hp q i k m N nm c B x M0 ms0 T' h') (hi : i < nm) (hkl : k ≤ hLen N x) (hm : m + k < 100000) (n : Int)
  (hk : ∀ T'' h'', AhI T0 h0 hp q i (min (k + 1) (hLen N x)) m N nm c B x M0 ms0 T'' h'' → K (.tuple #[]) h'') : callM P qagZ #[ptr q, ptr hp, .int .i64 n] h' K := by
 by_cases hl : k < hLen N x
 ·rw [show min (k + 1) (hLen N x) = k + 1 by omega] at hk
  exact ah_step y hi hl hm n hk
 have hkl : k = hLen N x := by omega
 rw [show min (k + 1) (hLen N x) = k by omega] at hk
 obtain ⟨W, M, p, A, xm, rfl, wk, a, hst, hr⟩ := y.e
 have hoff : p.enabled W.H = false := by
  have := a.at_
  have hd : p.done = true := by simp [HP.done]; omega
  simp -implicitDefEqProofs [HP.enabled, hd]
 refine hdstep_h n y.o.wf xm wk hm hi a.hp fun T2 h2 o2 x2 => ?_
 have hp1 : p.step (W.ms i) W.H n = (p, W.ms i, W.H) := by simp [HP.step, hoff]
 have e : W.step i n = W := by
  have h1 : W.step i n = ⟨(p.step (W.ms i) W.H n).2.2, bset W.ps i (some (.h (p.step (W.ms i) W.H n).1)), bset W.ms i (p.step (W.ms i) W.H n).2.1⟩ := by simp only [Wd.step, a.hp, PR.step]
  rw [h1, hp1]
  show (⟨W.H, bset W.ps i (some (.h p)), bset W.ms i (W.ms i)⟩ : Wd) = W
  rw [← a.hp, bset_id, bset_id]
 rw [e] at x2
 exact hk T2 h2 ⟨y.o.trans o2, W, M, p, A, x2, rfl, wk, a, hst, hr⟩
end
theorem bdOpWatch (u : ByteArray) : bdV (binf P qCZ) [(0, .int .i64 6), (1, .string u)] = some (.agg (opC ⟨6, u, 0, 0, 0, 0, []⟩ (.slice none 0 0)).toArray) := by kernel_rfl
theorem watchW {u : ByteArray} (h : u.size ≤ maxLen) : OpW ⟨6, u, 0, 0, 0, 0, []⟩ := ⟨by simp [I64], by simp [I64], by simp [I64], by simp [I64], by simp [U64], h⟩
theorem drain_told {f : Feed} {w : Int} : (f.drain w).told w = [] ∧ (f.drain w).lost w = false := by
 unfold Feed.drain Feed.told Feed.lost
 cases h : clientB w
 ·simp -implicitDefEqProofs
 ·simp -implicitDefEqProofs [qset]
theorem poll_twice {M : Tbl} {w : Int} : ((M.poll w).1.poll w).2 = rep0 := by
 have h1 : ∀ s, s < M.n → ((M.poll w).1.fd s).told w = [] ∧ ((M.poll w).1.fd s).lost w = false := fun s hs => by
  have : (M.poll w).1.fd s = (M.fd s).drain w := by show (if s < M.n then (M.fd s).drain w else M.fd s) = _; rw [if_pos hs]
  rw [this]; exact drain_told
 have hn : (M.poll w).1.n = M.n := rfl
 have t0 : totE ((M.poll w).1.toldTo w M.n) = 0 := tot_zero.2 fun i => by
  unfold nth Tbl.toldTo
  rw [List.getD_eq_getElem?_getD]
  by_cases hi : i < M.n
  ·simp -implicitDefEqProofs [hi, (h1 i hi).1]
  ·rw [List.getElem?_eq_none (by simp; omega)]; rfl
 have m0 : mergeE ((M.poll w).1.toldTo w M.n) = [] := by
  have := merge_len ((M.poll w).1.toldTo w M.n)
  rw [t0] at this
  exact List.eq_nil_of_length_eq_zero (by omega)
 have l0 : (M.poll w).1.lostTo w M.n = false := by
  unfold Tbl.lostTo
  rw [List.any_eq_false]
  intro s hs
  rw [(h1 s (by simpa using hs)).2]; simp
 show (⟨0, [], mergeE ((M.poll w).1.toldTo w (M.poll w).1.n), (M.poll w).1.lostTo w (M.poll w).1.n⟩ : Reply) = rep0
 rw [hn, m0, l0]; rfl
theorem do_poll (M : Tbl) {w : Int} (hw : clientB w = true) : M.do_ w pollO = M.poll w := by
 have hb : badB pollO = false := by decide
 have hk : pollO.kind = 8 := rfl
 simp -implicitDefEqProofs [Tbl.do_, hb, hw, hk]
def HtO (T4 : Tags) (h4 : Heap) (hp m N : Nat) (c : Cfg) (B : Nat → Nat) (nv : Value) (b : Nat) (h' : Heap) : Prop := ∃ (T' : Tags) (W : Wd) (M : Tbl) (n : Nat), RH T4 h4 hp m N 1 c B W M T' h' ∧ nv = .int .i64 n ∧ n ≤ b
def HtA (T4 : Tags) (h4 : Heap) (hp q m N : Nat) (c : Cfg) (B : Nat → Nat) (x : OpD) (M0 : Tbl) (ms0 : Nat → Mine) (j : Nat) (nv : Value) (b : Nat) (h' : Heap) : Prop := ∃ (T' : Tags) (n : Nat), AhI T4 h4 hp q 0 j m N 1 c B x M0 ms0 T' h' ∧ nv = .int .i64 n ∧ n ≤ b
def HtV (T4 : Tags) (h4 : Heap) (hp q m N : Nat) (c : Cfg) (B : Nat → Nat) (x : OpD) (M0 : Tbl) (ms0 : Nat → Mine) (j : Nat) (nv : Value) (b : Nat) (h' : Heap) : Prop := ∃ (T' : Tags) (n : Nat), AvI T4 h4 hp q 1 j m N 1 c B x M0 ms0 T' h' ∧ nv = .int .i64 n ∧ n ≤ b
def HtP (T4 : Tags) (h4 : Heap) (hp va m N : Nat) (c : Cfg) (B : Nat → Nat) (M6 : Tbl) (k : Nat) (nv : Value) (b : Nat) (h' : Heap) : Prop :=
 ∃ (T' : Tags) (W : Wd) (M : Tbl) (n : Nat) (R0 R1 : Reply) (a0 b0 a1 b1 : Value), RH T4 h4 hp m N 1 c B W M T' h' ∧ h' va = some (.cells (rplC R0 a0 b0 ++ rplC R1 a1 b1).toArray ty_2_api_Reply (0, 0)) ∧ T' va = lc ∧
  RpX (fz T' h') R0 a0 b0 ∧ RpX (fz T' h') R1 a1 b1 ∧ ((k = 0 ∧ M = M6) ∨ (k = 1 ∧ M = (M6.do_ 0 pollO).1 ∧ R0.err = 0) ∨ (k = 2 ∧ R0.err = 0 ∧ R1 = rep0)) ∧ nv = .int .i64 n ∧ n ≤ b
theorem UH_lc : ¬ UH lc := by rintro (h | h | h) <;> simp [pre, lc] at h
theorem rh_loc {T0 T' : Tags} {h0 h' : Heap} {hp m N nm b : Nat} {c : Cfg} {B : Nat → Nat} {W : Wd} {M : Tbl} {o o' : Obj} (y : RH T0 h0 hp m N nm c B W M T' h') (e : h' b = some o ∧ T' b = lc) (n : h0 b = none) : RH T0 h0 hp m N nm c B W M T' (upd h' b o') := by
 obtain ⟨A, x⟩ := y.x
 exact ⟨y.o.own n e.1, ⟨A, x.up (Only.lst y.o.wf e) (fun t ht hh => UH_lc (hh ▸ ht)) (by simp [lc])⟩, y.k, y.r, y.n, y.ec, y.lm, y.hz⟩
variable {K : Value → Heap → Prop}
set_option maxHeartbeats 8000000 in
theorem heedTwice_ok (c : Cfg) (cw : CfgW c) (ws : List OpD) (hs : List (List OpD)) (ts : List Int) {h : Heap} {wv hv tv : Value} (x : CrX h c ws hs ts wv hv tv) (hk : ∀ h', Ext h h' → K (.bool true) h') :
  callM P qdwZ #[.agg (crC c wv hv tv).toArray] h K := by
 apply qnQZ
 unfold qebZ
 refine nw_agg fun v1 h1 n1 e1 c1 => ?_
 refine awake17_ok fun h2 e2 => ?_
 have e02 := e1.trans e2
 have wo := x.w.one
 have ho := x.hd.one
 have to := x.t.one
 have ogA : ∀ h', Ext h2 h' → ldV (some (some 10)) (ptr v1) h' = some (.agg (crC c wv hv tv).toArray) := fun h' e => by simp [ld_at (e _ _ (e2 _ _ c1)), crC, cfgC]
 unfold qgKZ
 simp -implicitDefEqProofs [ogA _ (Ext.refl h2)]
 refine fits17_ok c ws hs ts (x.ext e02) fun h3 b e3 hb => ?_
 have e03 := e02.trans e3
 cases b with
 | false =>
  simp -implicitDefEqProofs
  exact awake17_ok fun h4 e4 => hk _ (e03.trans e4)
 | true =>
 have ft := hb rfl
 simp -implicitDefEqProofs
 unfold qgJZ
 have c3 := e3 _ _ (e2 _ _ c1)
 have og : ldV (some (some 7)) (ptr v1) h3 = some (.agg (cfgC c).toArray) := by simp [ld_at c3, crC, cfgC]
 simp -implicitDefEqProofs [og]
 refine hallNew_ok c cw (wf_nil h3) g1 (fun hr T4 h4 hp o4 y4 => ?_) (fun hr => by rw [ft.r] at hr; cases hr)
 obtain ⟨hcn, hN⟩ := cfg_nn hr
 have r4 := RH.init cw hr o4.wf y4 (fun _ => 0)
 obtain ⟨N, hNN⟩ : ∃ N, N = c.stripes.toNat := ⟨_, rfl⟩
 rw [← hNN] at r4 hcn hN
 have cst : (N : Int) = c.stripes := hcn
 unfold qgIZ
 have enil : ∀ p : Nat, binV .eql 4 true (ptr p) (.pointer none) = some (.bool false) := fun _ => rfl
 simp -implicitDefEqProofs [enil]
 unfold qgHZ
 refine newMine_ok r4.o.wf (g5i 0) fun T5 h5 mp o5 n5 z5 => ?_
 have r5 := rh_mine r4 o5 z5
 obtain ⟨B, hB⟩ : ∃ B, B = bset (fun _ => 0) 0 mp := ⟨_, rfl⟩
 rw [← hB] at r5
 have hB0 : B 0 = mp := by rw [hB]; rfl
 have cb4 : h4 v1 = some (.cells (crC c wv hv tv).toArray qgmZ (0, 0)) ∧ T4 v1 = [] := o4.k.at c3 rfl (by simp [pre])
 have xF : CrX (fz T4 h4) c ws hs ts wv hv tv := by
  have : CrX (fz (fun _ => []) h3) c ws hs ts wv hv tv := by rw [fz_nil]; exact x.ext e03
  exact this.ext (o4.ext (by simp [pre]))
 have wl := x.w.len
 have n8 := r4.k.hs.n8
 rw [r4.n] at n8
 have c8s : c.stripes ≤ 8 := by omega
 have cl : ∀ {T' h'}, Only UH T4 h4 T' h' → ∀ {n : Nat} {v : Value}, (crC c wv hv tv)[n]? = some v → cel h' v1 n = some v := fun o n v hv => by
  rw [cel_of (o.see cb4 UH.nil).1]; simpa using hv
 unfold qgGZ
 rw [seqM_eq]
 unfold qgFZ
 refine loop_on [1, 3, 5] (fun s h' => ∃ i : Nat, HtO T4 h4 hp (200 * i) N c B (s 6) (15 * i) h' ∧ s 7 = .int .i64 i ∧ i ≤ ws.length) (fun s _ => (ws.length - num (s 7)).toNat) ⟨0, ⟨T5, _, _, 0, r5.mono (by omega), rfl, by omega⟩, rfl, by omega⟩ ?_
 rintro s h6 hf6 ⟨i, ⟨T6, W6, M6, n6, r6, s6, hn6⟩, s7, hi⟩
 have s1 : s 1 = ptr v1 := by simpa using hf6 1 (by simp)
 have s3 : s 3 = ptr hp := by simpa using hf6 3 (by simp)
 have s5 : s 5 = ptr mp := by simpa using hf6 5 (by simp)
 have w4 := ft.w
 have c7 := cl r6.o (n := 7) (v := wv) (by simp [crC, cfgC])
 unfold qgEZ
 simp -implicitDefEqProofs [s1, c7, wl, s7]
 refine ⟨fun hc => ?_, fun hc => ?_⟩
 ·have hlt : i < ws.length := by omega
  have hwi : IntKind.i64.wrap ((i : Int) + 1) = (i + 1 : Nat) := by rw [wrap64_id (by omega) (by omega)]; omega
  obtain ⟨bi, pi, ui, j1, j2, j3, j4⟩ := opsAt xF.w hlt
  have hsx := ft.sw _ (List.getElem_mem hlt)
  have lx := short_users hsx
  unfold qgDZ
  rw [seqM_eq]
  unfold qgCZ
  rw [seqM_eq]
  unfold qfGZ
  refine loop_on [1, 3, 5, 7] (fun s h' => ∃ j : Nat, HtO T4 h4 hp (200 * i + 50 * j) N c B (s 6) (15 * i + 4 * j) h' ∧ s 8 = .int .i64 j ∧ j ≤ 2) (fun s _ => (2 - num (s 8)).toNat) ⟨0, ⟨T6, W6, M6, n6, r6, by simp [s6], by omega⟩, rfl, by omega⟩ ?_
  rintro r h7 hf7 ⟨j, ⟨T7, W7, M7, n7, r7, r7', hn7⟩, r8, hj⟩
  have q1 : r 1 = ptr v1 := by simpa [s1] using hf7 1 (by simp)
  have q3 : r 3 = ptr hp := by simpa [s3] using hf7 3 (by simp)
  have q5 : r 5 = ptr mp := by simpa [s5] using hf7 5 (by simp)
  have q7 : r 7 = .int .i64 i := by simpa [s7] using hf7 7 (by simp)
  have eF7 : Ext (fz T4 h4) h7 := (r7.o.ext UH.nil).trans (fz_ext _ _)
  have c7 := cl r7.o (n := 7) (v := wv) (by simp [crC, cfgC])
  have hla := j2 _ eF7
  unfold qfFZ
  simp -implicitDefEqProofs [r8]
  refine ⟨fun hc => ?_, fun hc => ?_⟩
  ·have hj2 : j < 2 := by omega
   have hwj : IntKind.i64.wrap ((j : Int) + 1) = (j + 1 : Nat) := by rw [wrap64_id (by omega) (by omega)]; omega
   have hu : cel h7 bi (pi + 1) = some (.string ws[i].user) := by
    have h1 := cel_of_ld hla (i := 1) (by omega) (by simp [opC])
    simpa [opC] using h1
   unfold qfEZ
   rw [seqM_eq]
   unfold qfDZ
   simp -implicitDefEqProofs [q1, c7, q7, j1, hu, bdOpWatch, q3, q5]
   obtain ⟨X, hX⟩ : ∃ X : OpD, X = ⟨6, ws[i].user, 0, 0, 0, 0, []⟩ := ⟨_, rfl⟩
   rw [← hX, ← hB0]
   refine ah_new r7 (by omega) (by omega) X (by rw [hX]; exact watchW j4.s1) (fun _ => by rw [hX]; exact Int.le_refl 6) (by rw [hX]; simp) (by rw [hX]; exact .inl ⟨rfl, _, _, rfl⟩) fun Ta ha q a0 => ?_
   have hL := hLen_le (N := N) (by omega) X
   rw [hB0]
   unfold qfCZ
   refine loop_on [1, 3, 5, 7, 8, 9] (fun s h'' => ∃ k : Nat, HtA T4 h4 hp q (200 * i + 50 * j) N c B X M7 W7.ms (min k (hLen N X)) (s 6) (15 * i + 4 * j + k) h'' ∧ s 10 = .int .i64 k ∧ k ≤ 4) (fun s _ => (4 - num (s 10)).toNat) ⟨0, ⟨Ta, n7, by simpa using a0, by simp [r7'], by omega⟩, rfl, by omega⟩ ?_
   rintro t h8 hf8 ⟨k, ⟨T8, n8', a8, t6, hn8⟩, t10, hk4⟩
   have t1 : t 1 = ptr v1 := by simpa [q1] using hf8 1 (by simp)
   have t3 : t 3 = ptr hp := by simpa [q3] using hf8 3 (by simp)
   have t5 : t 5 = ptr mp := by simpa [q5] using hf8 5 (by simp)
   have t7 : t 7 = .int .i64 i := by simpa [q7] using hf8 7 (by simp)
   have t8 : t 8 = .int .i64 j := by simpa [r8] using hf8 8 (by simp)
   have t9 : t 9 = ptr q := by simpa using hf8 9 (by simp)
   unfold qfBZ
   simp -implicitDefEqProofs [t10]
   refine ⟨fun hc => ?_, fun hc => ?_⟩
   ·have hk4' : k < 4 := by omega
    have hwk : IntKind.i64.wrap ((k : Int) + 1) = (k + 1 : Nat) := by rw [wrap64_id (by omega) (by omega)]; omega
    have hwn : IntKind.i64.wrap ((n8' : Int) + 1) = (n8' + 1 : Nat) := by rw [wrap64_id (by omega) (by omega)]; omega
    unfold qfAZ
    simp -implicitDefEqProofs only [t9, t3, t6]
    refine ah_any a8 (by omega) (by omega) (by omega) _ fun T9 h9 a9 => ?_
    unfold qfzZ
    simp -implicitDefEqProofs [q1, q3, q5, q7, r8, t1, t3, t5, t6, t7, t8, t9, t10, hwk, hwn, -Int.natCast_add]
    refine ⟨⟨k + 1, ⟨T9, n8' + 1, ?_, rfl, by omega⟩, rfl, by omega⟩, by omega⟩
    rw [show min (k + 1) (hLen N X) = min (min k (hLen N X) + 1) (hLen N X) by omega]
    exact a9
   ·have hk4' : k = 4 := by omega
    subst hk4'
    have hX4 : hLen N X ≤ 4 := by rw [hX]; unfold hLen; split <;> simp
    rw [show min 4 (hLen N X) = hLen N X by omega] at a8
    obtain ⟨W9, p9, r9, _⟩ := ah_done a8
    simp -implicitDefEqProofs [s1, s3, s5, s7, r8, q1, q3, q5, q7, t1, t3, t5, t6, t7, t8, hwj, -Int.natCast_add]
    exact ⟨⟨j + 1, ⟨T8, W9, _, n8', r9.mono (by omega), rfl, by omega⟩, rfl, by omega⟩, by omega⟩
  ·have hj2 : j = 2 := by omega
   subst hj2
   unfold qfMZ
   simp -implicitDefEqProofs [q1, c7, q7, j1, hla]
   refine writing17_ok _ j3.one fun h8 e8 => ?_
   have r8' := r7.ext e8
   obtain ⟨X, hX⟩ : ∃ X, X = wrOp ws[i] := ⟨_, rfl⟩
   have Xw : OpW X := by rw [hX]; exact wrOp_w j4
   have Xu : X.users = ws[i].users := by rw [hX]; rfl
   have uT : Sl 1 StrR (fz T7 h8) ui X.users := by rw [Xu]; exact j3.ext (@StrR.ext) ((r7.o.ext UH.nil).trans (fz_of_ext e8))
   unfold qfLZ
   rw [← hX]
   simp -implicitDefEqProofs [q3]
   refine av_new (i := 1) r8' (by omega) X Xw (by rw [Xu]; omega) uT fun Ta ha q a0 => ?_
   unfold qfKZ
   refine loop_on [1, 3, 5, 7, 11] (fun s h'' => ∃ k : Nat, HtV T4 h4 hp q (200 * i + 50 * 2) N c B X M7 W7.ms k (s 6) (15 * i + 4 * 2 + k) h'' ∧ s 12 = .int .i64 k ∧ k ≤ 7) (fun s _ => (7 - num (s 12)).toNat) ⟨0, ⟨Ta, n7, a0, by simp [r7'], by omega⟩, rfl, by omega⟩ ?_
   rintro t h9 hf9 ⟨k, ⟨T9, n9, a9, t6, hn9⟩, t12, hk7⟩
   have t1 : t 1 = ptr v1 := by simpa [q1] using hf9 1 (by simp)
   have t3 : t 3 = ptr hp := by simpa [q3] using hf9 3 (by simp)
   have t5 : t 5 = ptr mp := by simpa [q5] using hf9 5 (by simp)
   have t7 : t 7 = .int .i64 i := by simpa [q7] using hf9 7 (by simp)
   have t11 : t 11 = ptr q := by simpa using hf9 11 (by simp)
   unfold qfJZ
   simp -implicitDefEqProofs [t12]
   refine ⟨fun hc => ?_, fun hc => ?_⟩
   ·have hwk : IntKind.i64.wrap ((k : Int) + 1) = (k + 1 : Nat) := by rw [wrap64_id (by omega) (by omega)]; omega
    have hwn : IntKind.i64.wrap ((n9 : Int) + 1) = (n9 + 1 : Nat) := by rw [wrap64_id (by omega) (by omega)]; omega
    unfold qfIZ
    simp -implicitDefEqProofs only [t11, t3, t6]
    refine av_step a9 (by omega) (by omega) _ fun Tb hb ab => ?_
    unfold qfHZ
    simp -implicitDefEqProofs [q1, q3, q5, q7, t1, t3, t5, t6, t7, t11, t12, hwk, hwn, -Int.natCast_add]
    exact ⟨⟨k + 1, ⟨Tb, n9 + 1, ab, rfl, by omega⟩, rfl, by omega⟩, by omega⟩
   ·have hk7' : k = 7 := by omega
    subst hk7'
    obtain ⟨W9, p9, r9, _⟩ := av_done a9
    simp -implicitDefEqProofs [s1, s3, s5, s7, q1, q3, q5, q7, t1, t3, t5, t6, t7, hwi, -Int.natCast_add]
    exact ⟨⟨i + 1, ⟨T9, W9, _, n9, r9.mono (by omega), rfl, by omega⟩, rfl, by omega⟩, by omega⟩
 have hie : i = ws.length := by omega
 unfold qgcZ
 have zc2R : zc P ty_2_api_Reply = some #[.int .i64 0, .slice none 0 0, .slice none 0 0, .bool false, .int .i64 0, .slice none 0 0, .slice none 0 0, .bool false] := by kernel_rfl
 rw [zc2R]
 refine nw_tag r6.o.wf lc fun va T7 h7 n7 o7 t7 c7 => ?_
 have n7' : h4 va = none := by
  cases hh : h4 va with
  | none => rfl
  | some o => obtain ⟨o', ho'⟩ := r6.o.al _ _ hh; rw [n7] at ho'; cases ho'
 obtain ⟨A6, x6⟩ := r6.x
 have r7 : RH T4 h4 hp (200 * i) N 1 c B W6 M6 T7 h7 := ⟨r6.o.up o7 non_up, ⟨A6, x6.up o7 (fun _ _ h => h) (not_non _)⟩, r6.k, r6.r, r6.n, r6.ec, r6.lm, r6.hz⟩
 rw [seqM_eq]
 unfold qfZZ
 refine loop_on [1, 3, 5, 13] (fun s h' => ∃ k : Nat, HtP T4 h4 hp va (1000 + 50 * k) N c B M6 k (s 6) (15 * 4 + 30 * k) h' ∧ s 14 = .int .i64 k ∧ k ≤ 2) (fun s _ => (2 - num (s 14)).toNat) ⟨0, ⟨T7, W6, M6, n6, rep0, rep0, .slice none 0 0, .slice none 0 0, .slice none 0 0, .slice none 0 0, r7.mono (by omega), c7, t7, RpX.no _ rfl rfl, RpX.no _ rfl rfl, .inl ⟨rfl, rfl⟩, by simp [s6], by omega⟩, rfl, by omega⟩ ?_
 rintro r h8 hf8 ⟨k, ⟨T8, W8, M8, n8, R0, R1, a0, b0, a1, b1, r8, c8, t8, x0, x1, hM, r6', hn8⟩, r14, hk2⟩
 have q1 : r 1 = ptr v1 := by simpa [s1] using hf8 1 (by simp)
 have q3 : r 3 = ptr hp := by simpa [s3] using hf8 3 (by simp)
 have q5 : r 5 = ptr mp := by simpa [s5] using hf8 5 (by simp)
 have q13 : r 13 = ptr va := by simpa using hf8 13 (by simp)
 have ax0 := x0.v.one
 have bx0 := x0.e.one
 have ax1 := x1.v.one
 have bx1 := x1.e.one
 unfold qfYZ
 simp -implicitDefEqProofs [r14]
 refine ⟨fun hc => ?_, fun hc => ?_⟩
 ·have hk2' : k < 2 := by omega
  have hwk : IntKind.i64.wrap ((k : Int) + 1) = (k + 1 : Nat) := by rw [wrap64_id (by omega) (by omega)]; omega
  unfold qfXZ
  rw [seqM_eq]
  unfold qfWZ
  simp -implicitDefEqProofs only [bdOpPoll, ov_s, q3, q5]
  have rb := r8.base (Only.refl (U := non) r8.o.wf) (fun _ _ h => h) (not_non _)
  rw [← hB0]
  refine ah_new rb (by omega) (by omega) pollO pollW (fun _ => by simp [pollO]) (by simp [pollO]) (.inl ⟨rfl, _, _, rfl⟩) fun Ta ha q aa => ?_
  try rw [hB0]
  have hL : hLen N pollO = 3 * N + 1 := by
   have hb : badB pollO = false := by decide
   have h8 : pollO.kind = 8 := rfl
   simp -implicitDefEqProofs [hLen, hb, h8]
  unfold qfVZ
  rw [seqM_eq]
  unfold qfQZ
  refine loop_on [1, 3, 5, 13, 14, 15] (fun s h'' => ∃ j : Nat, HtA T8 h8 hp q (1000 + 50 * k) N c B pollO M8 W8.ms j (s 6) (15 * 4 + 30 * k + j) h'' ∧ s 16 = .int .i64 j ∧ j ≤ 3 * N + 1) (fun s _ => (3 * N + 1 - num (s 16)).toNat) ⟨0, ⟨Ta, n8, aa, by simp [r6'], by omega⟩, rfl, by omega⟩ ?_
  rintro t h9 hf9 ⟨j, ⟨T9, n9, a9, t6, hn9⟩, t16, hj⟩
  have t1 : t 1 = ptr v1 := by simpa [q1] using hf9 1 (by simp)
  have t3 : t 3 = ptr hp := by simpa [q3] using hf9 3 (by simp)
  have t5 : t 5 = ptr mp := by simpa [q5] using hf9 5 (by simp)
  have t13 : t 13 = ptr va := by simpa [q13] using hf9 13 (by simp)
  have t14 : t 14 = .int .i64 k := by simpa [r14] using hf9 14 (by simp)
  have t15 : t 15 = ptr q := by simpa using hf9 15 (by simp)
  have c0 : cel h9 v1 0 = some (.int .i64 c.stripes) := cl (r8.o.trans a9.o) (by simp [crC, cfgC])
  have hw3 : IntKind.i64.wrap (3 * c.stripes) = 3 * c.stripes := wrap64_id (by omega) (by omega)
  have hw4 : IntKind.i64.wrap (3 * c.stripes + 1) = 3 * c.stripes + 1 := wrap64_id (by omega) (by omega)
  unfold qfPZ
  simp -implicitDefEqProofs [t1, c0, hw3, hw4, t16]
  refine ⟨fun hc => ?_, fun hc => ?_⟩
  ·have hjl : j < 3 * N + 1 := by omega
   have hwj : IntKind.i64.wrap ((j : Int) + 1) = (j + 1 : Nat) := by rw [wrap64_id (by omega) (by omega)]; omega
   have hwn : IntKind.i64.wrap ((n9 : Int) + 1) = (n9 + 1 : Nat) := by rw [wrap64_id (by omega) (by omega)]; omega
   unfold qfOZ
   simp -implicitDefEqProofs only [t15, t3, t6]
   refine ah_step a9 (by omega) (by rw [hL]; exact hjl) (by omega) _ fun Tb hb ab => ?_
   unfold qfNZ
   simp -implicitDefEqProofs [q1, q3, q5, q13, r14, t1, t3, t5, t6, t13, t14, t15, t16, hwj, hwn, -Int.natCast_add]
   exact ⟨⟨j + 1, ⟨Tb, n9 + 1, ab, rfl, by omega⟩, rfl, by omega⟩, by omega⟩
  have hje : j = 3 * N + 1 := by omega
  rw [hje, ← hL] at a9
  obtain ⟨W9, p9, r9, hp9, hd9, hr9, _⟩ := ah_done a9
  have B9 := r9.o.see ⟨c8, t8⟩ UH_lc
  unfold qfUZ
  simp -implicitDefEqProofs [t15]
  refine hedone_ok hp9 ?_
  rw [hd9]
  unfold qfTZ
  simp -implicitDefEqProofs
  unfold qfSZ
  simp -implicitDefEqProofs [t15]
  refine hereply_ok r9.o.wf hp9 fun h10 vv ev e10 rx => ?_
  have hrep : (PR.h p9).rep = (M8.do_ 0 pollO).2 := by simp [PR.rep, hd9]; exact hr9
  rw [hrep] at rx ⊢
  have r10 := r9.ext e10
  have c10 : h10 va = some (.cells (rplC R0 a0 b0 ++ rplC R1 a1 b1).toArray ty_2_api_Reply (0, 0)) ∧ T9 va = lc := ⟨e10 _ _ B9.1, B9.2⟩
  have y0 := (x0.ext (r9.o.ext UH.nil)).ext (fz_of_ext e10)
  have y1 := (x1.ext (r9.o.ext UH.nil)).ext (fz_of_ext e10)
  have r10' : RH T4 h4 hp (1000 + 50 * k + hLen N pollO) N 1 c B W9 (M8.do_ 0 pollO).1 T9 h10 := ⟨r8.o.trans r10.o, r10.x, r10.k, r10.r, r10.n, r10.ec, r10.lm, r10.hz⟩
  have vo := rx.v.one
  have eo := rx.e.one
  unfold qfRZ
  have hia : iaV (some (some 2, 4)) (ptr va) (.int .i64 k) = some (.pointer (some ⟨va, k * 4, none⟩)) := by
   have : (0 : Int) ≤ k ∧ (k : Int) < 2 := by omega
   simp -implicitDefEqProofs [iaV, this]
  simp -implicitDefEqProofs [t13, t14, hia]
  have cc := c10.1
  simp -implicitDefEqProofs only [rplC, List.cons_append, List.nil_append] at cc
  have hcl0 : clientB 0 = true := by decide
  have e0 : (M8.do_ 0 pollO).2.err = 0 := by rw [do_poll _ hcl0]; rfl
  have nex : Only (fun t => t = lc) T9 h10 T9 (upd h10 va (.cells (if k = 0 then rplC (M8.do_ 0 pollO).2 vv ev ++ rplC R1 a1 b1 else rplC R0 a0 b0 ++ rplC (M8.do_ 0 pollO).2 vv ev).toArray ty_2_api_Reply (0, 0))) := Only.lst r10.o.wf c10
  have eX := nex.ext (by simp [lc])
  have rX := rh_loc (o' := .cells (if k = 0 then rplC (M8.do_ 0 pollO).2 vv ev ++ rplC R1 a1 b1 else rplC R0 a0 b0 ++ rplC (M8.do_ 0 pollO).2 vv ev).toArray ty_2_api_Reply (0, 0)) r10' c10 n7'
  have hk01 : k = 0 ∨ k = 1 := by omega
  rcases hk01 with hk0 | hk1
  ·subst hk0
   have r14z : r 14 = .int .i64 0 := r14
   have w01 : IntKind.i64.wrap 1 = 1 := wrap64_id (by omega) (by omega)
   rw [stm_at (n := 4) cc (by simp [rplC]) (by simp) (by simp [rplC, vo.1, eo.1])]
   simp -implicitDefEqProofs [s1, s3, s5, q1, q3, q5, q13, r14z, t1, t3, t5, t6, t13, t14, t15, hwk, w01, -Int.natCast_add]
   have hM0 : M8 = M6 := by
    rcases hM with ⟨_, h⟩ | ⟨h, _⟩ | ⟨h, _⟩
    ·exact h
    ·omega
    ·omega
   refine ⟨⟨1, ⟨T9, W9, _, n9, (M8.do_ 0 pollO).2, R1, vv, ev, a1, b1, rX.mono (by rw [hL]; omega), ?_, c10.2, rx.ext eX, y1.ext eX, .inr (.inl ⟨rfl, by rw [hM0], e0⟩), rfl, by omega⟩, rfl, by omega⟩, by omega⟩
   simp -implicitDefEqProofs [over, rplC]
   exact upd_same' _ _ _
  ·subst hk1
   have r14z : r 14 = .int .i64 1 := r14
   have w01 : IntKind.i64.wrap 2 = 2 := wrap64_id (by omega) (by omega)
   rw [stm_at (n := 4) cc (by simp [rplC]) (by simp) (by simp [rplC, vo.1, eo.1])]
   simp -implicitDefEqProofs [s1, s3, s5, q1, q3, q5, q13, r14z, t1, t3, t5, t6, t13, t14, t15, hwk, w01, -Int.natCast_add]
   have hM1 : M8 = (M6.do_ 0 pollO).1 ∧ R0.err = 0 := by
    rcases hM with ⟨h, _⟩ | ⟨_, h1, h2⟩ | ⟨h, _⟩
    ·omega
    ·exact ⟨h1, h2⟩
    ·omega
   have hR1 : (M8.do_ 0 pollO).2 = rep0 := by
    rw [hM1.1, do_poll _ hcl0, do_poll _ hcl0]; exact poll_twice
   refine ⟨2, ⟨T9, W9, _, n9, R0, (M8.do_ 0 pollO).2, a0, b0, vv, ev, rX.mono (by rw [hL]; omega), ?_, c10.2, y0.ext eX, rx.ext eX, .inr (.inr ⟨rfl, hM1.2, hR1⟩), rfl, by omega⟩, rfl, by omega⟩
   simp -implicitDefEqProofs [over, rplC]
   exact upd_same' _ _ _
 have hk2' : k = 2 := by omega
 have hR : R0.err = 0 ∧ R1 = rep0 := by
  rcases hM with ⟨h, _⟩ | ⟨h, _⟩ | ⟨_, h1, h2⟩
  ·omega
  ·omega
  ·exact ⟨h1, h2⟩
 have cc := c8
 simp -implicitDefEqProofs only [rplC, List.cons_append, List.nil_append] at cc
 unfold qgbZ
 have hia1 : iaV (some (some 2, 4)) (ptr va) (.int .i64 1) = some (.pointer (some ⟨va, 4, none⟩)) := by simp [iaV]
 have hia0 : iaV (some (some 2, 4)) (ptr va) (.int .i64 0) = some (.pointer (some ⟨va, 0, none⟩)) := by simp [iaV]
 have hld : ldV (some (some 4)) (.pointer (some ⟨va, 4, none⟩)) h8 = some (.agg (rplC R1 a1 b1).toArray) := by simp [ld_at cc, rplC]
 have hrb : (Value.agg #[.int .i64 0, .slice none 0 0, .slice none 0 0, .bool false]) = .agg (rplC rep0 (.slice none 0 0) (.slice none 0 0)).toArray := rfl
 simp -implicitDefEqProofs [q13, hia1, hld, bdRep0]
 rw [hrb]
 refine repSame_ok R1 rep0 (x1.ext (fz_ext _ _)) (RpX.no _ rfl rfl) (by rw [hR.2]; simp [rep0]) (by rw [hR.2]; simp [rep0]) fun h9 e9 => ?_
 have r9 := r8.ext e9
 have c9 := e9 _ _ cc
 have c3' : cel h9 v1 3 = some (.int .i64 c.watches) := cl r9.o (by simp [crC, cfgC])
 have er0 : cel h9 va 0 = some (.int .i64 0) := by rw [cel_of c9]; simp [hR.1]
 have hlm : ((W8.ms 0).length : Int) ≤ c.watches := r9.lm 0
 have hms : MineR T8 h9 [5, 0] mp (W8.ms 0) := by
  have := r9.ms (j := 0) (by omega)
  rw [hB0] at this; exact this
 unfold qgaZ
 simp -implicitDefEqProofs [hR.2, q1, q5, q13, hia0, er0, c3']
 refine mcount_ok hms ?_
 simp -implicitDefEqProofs [c3', hlm]
 exact hk _ (e03.trans (ext_of_only ((o4.mono fun _ => UH.i1).trans r9.o) UH.nil))
end Go.Proofs.YtcnphhhcknhhaaaGreat
namespace Go.Proofs.YtcnphhhcknhhaaaGreat
open Go Go.Den
set_option linter.unusedSimpArgs false
set_option linter.unusedVariables false
structure CrewD where
 c : Cfg
 ws : List OpD
 hs : List (List OpD)
 ts : List Int
def CrewR (h : Heap) (c : List Value) (x : CrewD) : Prop := ∃ wv hv tv, c = crC x.c wv hv tv ∧ CrX h x.c x.ws x.hs x.ts wv hv tv ∧ CfgW x.c
theorem rdrCrew : Rdr P 44 CrewR := fun enc W base spare held fuel cs x h => by
 have hl : cs.length = 10 := (struct_fields (P := P) Tryz.underlying44 h).1.trans (by kernel_rfl)
 obtain ⟨_, _, h0⟩ := struct_field (P := P) Tryz.underlying44 h 0 24 0 7 (by kernel_rfl)
 obtain ⟨_, _, h1⟩ := struct_field (P := P) Tryz.underlying44 h 1 40 7 1 (by kernel_rfl)
 obtain ⟨_, _, h2⟩ := struct_field (P := P) Tryz.underlying44 h 2 41 8 1 (by kernel_rfl)
 obtain ⟨_, _, h3⟩ := struct_field (P := P) Tryz.underlying44 h 3 42 9 1 (by kernel_rfl)
 obtain ⟨a0, e0, w0⟩ := rdrCfg _ _ _ _ _ _ _ _ h0
 have rO : Rdr P 40 OpsR := Rdr.slice (P := P) (sz := 7) Tryz.underlying40 (by kernel_rfl) (by decide) rdrOp
 obtain ⟨a1, v1, e1, s1⟩ := rO _ _ _ _ _ _ _ _ h1
 obtain ⟨a2, v2, e2, s2⟩ := Rdr.slice (P := P) (sz := 1) Tryz.underlying41 (by kernel_rfl) (by decide) rO _ _ _ _ _ _ _ _ h2
 obtain ⟨a3, v3, e3, s3⟩ := Rdr.slice (P := P) (sz := 1) Tryz.underlying42 (by kernel_rfl) (by decide) (Rdr.int (P := P) Tryz.underlying5) _ _ _ _ _ _ _ _ h3
 match cs, hl with
 | [x0, x1, x2, x3, x4, x5, x6, x7, x8, x9], _ =>
  simp [cfgC] at e0 e1 e2 e3
  exact ⟨⟨a0, a1, a2, a3⟩, v1, v2, v3, by simp [crC, cfgC, e0, e1, e2, e3], ⟨s1, s2, s3⟩, w0⟩
end Go.Proofs.YtcnphhhcknhhaaaGreat
namespace Go.Proofs.YtcnphhhcknhhaaaGreat
open Go Go.Den
variable {K : Value → Heap → Prop}
theorem heedTwice_row {x : CrewD} {b0 : Array Value} {h : Heap} (hc : CrewR h b0.toList x) (hk : ∀ h', Ext h h' → K (.bool true) h') :
  callM P qdwZ #[.agg b0] h K := by
 obtain ⟨wv, hv, tv, e0, cx, cw⟩ := hc
 have h0 : b0 = (crC x.c wv hv tv).toArray := by rw [← e0]
 rw [h0]
 exact heedTwice_ok x.c cw x.ws x.hs x.ts cx hk
end Go.Proofs.YtcnphhhcknhhaaaGreat
