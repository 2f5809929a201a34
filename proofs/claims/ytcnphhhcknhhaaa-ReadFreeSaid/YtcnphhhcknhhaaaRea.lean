/- Contracts of the processes that read, and of the helpers of the laws. No condition beyond the hypotheses that each theorem states. -/
import Derived.Test.YtcnphhhcknhhaaaFun
set_option linter.unusedSimpArgs false
set_option linter.unusedVariables false
namespace Go.Proofs.Ytcnphhhcknhhaaa
open Go Go.Den Go.MapKept
set_option linter.unusedSimpArgs false
set_option linter.unusedVariables false
set_option maxRecDepth 20000
/-! A reading, in memory. -/
def rpC (r : RP) (uv sv ev : Value) (mr : Nat) (vv : Value) : List Value := [.int .i64 r.who, uv, .int .i64 r.of, sv, .int .i64 r.ph, .int .i64 r.at_, .int .i64 r.tries, ev, .bool r.valid, .bool r.spent, .map (some mr),
  .int .u64 r.t.now, .int .u64 r.t.seq, .bool r.t.closed, .int .i64 r.looked, .int .i64 r.placed, .int .i64 r.err, vv, .slice none 0 0, .bool false]
def SeenR (F h : Heap) (mr : Nat) (s : Int → Option Book) : Prop := ∃ f, MapR (.int .i64) h mr f ∧ ∀ i : Int, match s i with
  | some b => ∃ a c, f (.int .i64 i) = some (.agg #[a, c]) ∧ BookR F a c b
  | none => f (.int .i64 i) = none
structure RPX (T : Tags) (h : Heap) (g : Tag) (p : Nat) (r : RP) (uv sv ev : Value) (mr : Nat) (vv : Value) : Prop where
  hp : h p = some (.cells (rpC r uv sv ev mr vv).toArray ty_read_Proc (0, 0))
  tp : T p = g ++ [0]
  us : Sl 1 StrR (fz T h) uv r.users
  ss : Sl 1 NatR (fz T h) sv r.ss
  ep : Rw T h (g ++ [1]) 1 ty_uint64 ev r.k (seqF r.k fun i => [.int .u64 (r.ep i)])
  mt : T mr = g ++ [2]
  sn : SeenR (fz T h) h mr r.seen
  vs : Sl 3 PresR (fz T h) vv r.vals
  vn : r.vals = [] → vv = .slice none 0 0
def RPR (T : Tags) (h : Heap) (g : Tag) (p : Nat) (r : RP) : Prop := ∃ uv sv ev mr vv, RPX T h g p r uv sv ev mr vv
theorem SeenR.kp {U : Tag → Prop} {T T' : Tags} {h h' : Heap} {g : Tag} {mr : Nat} {s : Int → Option Book} (x : SeenR (fz T h) h mr s) (k : Kp U T h T' h') (ht : T mr = g) (u : ¬ U g) (n : ¬ U []) : SeenR (fz T' h') h' mr s := by
  obtain ⟨f, m, hs⟩ := x
  obtain ⟨o, ho⟩ := m.lt
  refine ⟨f, m.of (by rw [(k.at ho ht u).1, ho]), fun i => ?_⟩
  have := hs i
  cases hsi : s i with
  | none => simpa [hsi] using this
  | some b => simp only [hsi] at this ⊢; obtain ⟨a, c, h1, h2⟩ := this; exact ⟨a, c, h1, h2.ext (k.ext n)⟩
theorem RPX.kp {U : Tag → Prop} {T T' : Tags} {h h' : Heap} {g : Tag} {p : Nat} {r : RP} {uv sv ev : Value} {mr : Nat} {vv : Value} (x : RPX T h g p r uv sv ev mr vv) (k : Kp U T h T' h') (o : Off U g) (n : ¬ U []) : RPX T' h' g p r uv sv ev mr vv := by
  obtain ⟨f, m, _⟩ := x.sn
  obtain ⟨om, hom⟩ := m.lt
  exact ⟨(k.at x.hp x.tp (o.at _)).1, (k.at x.hp x.tp (o.at _)).2, x.us.ext (@StrR.ext) (k.ext n), x.ss.ext (@NatR.ext) (k.ext n), x.ep.kp k (o.at _), (k.at hom x.mt (o.at _)).2, x.sn.kp k x.mt (o.at _) n,
    x.vs.ext (@PresR.ext) (k.ext n), x.vn⟩
theorem RPR.kp {U : Tag → Prop} {T T' : Tags} {h h' : Heap} {g : Tag} {p : Nat} {r : RP} (x : RPR T h g p r) (k : Kp U T h T' h') (o : Off U g) (n : ¬ U []) : RPR T' h' g p r := by
  obtain ⟨uv, sv, ev, mr, vv, x⟩ := x
  exact ⟨uv, sv, ev, mr, vv, x.kp k o n⟩
/-- The process's own block is written. -/
theorem RPX.st {T : Tags} {h : Heap} {g : Tag} {p : Nat} {r r' : RP} {uv sv ev : Value} {mr : Nat} {vv vv' : Value} (x : RPX T h g p r uv sv ev mr vv) (w : Wf T h) {c : Array Value} (hc : c = (rpC r' uv sv ev mr vv').toArray)
    (h1 : r'.users = r.users) (h2 : r'.ss = r.ss) (h3 : r'.ep = r.ep) (h4 : r'.seen = r.seen) (h5 : Sl 3 PresR (fz T h) vv' r'.vals) (h6 : r'.vals = [] → vv' = .slice none 0 0) :
    Only (fun t => t = g ++ [0]) T h T (upd h p (.cells c ty_read_Proc (0, 0))) ∧ RPX T (upd h p (.cells c ty_read_Proc (0, 0))) g p r' uv sv ev mr vv' := by
  have o1 : Only (fun t => t = g ++ [0]) T h T (upd h p (.cells c ty_read_Proc (0, 0))) := Only.upd w x.hp x.tp
  have e := o1.ext (by simp)
  have hk : r'.k = r.k := by simp [RP.k, h2]
  refine ⟨o1, by rw [upd_same', hc], x.tp, by rw [h1]; exact x.us.ext (@StrR.ext) e, by rw [h2]; exact x.ss.ext (@NatR.ext) e, by rw [hk, h3]; exact x.ep.kp o1.k (ne_tag (by simp)), x.mt, by rw [h4]; exact x.sn.kp o1.k x.mt (ne_tag (by simp)) (by simp), h5.ext (@PresR.ext) e, h6⟩
theorem mpSeen : mpC P ty_Map_int_omap_Map_string_doorman_book_Entry = some (ty_int, .int .i64, .agg #[.slice none 0 0, .slice none 0 0]) := by kernel_rfl
theorem unSlU64 : P.underlying ty_Sl_uint64 = some (.slice ty_uint64) := by kernel_rfl
theorem apU64 : apC P ty_uint64 = some (1, 8, 1) := by kernel_rfl
theorem zcU64 : zc P ty_uint64 = some #[.int .u64 0] := by kernel_rfl
theorem rbegin_ok {T : Tags} {h : Heap} {g : Tag} {p : Nat} {r : RP} (w : Wf T h) (gg : Gd g) {uv sv ev0 mv0 vv : Value} (hp : h p = some (.cells #[.int .i64 r.who, uv, .int .i64 r.of, sv, .int .i64 r.ph, .int .i64 r.at_, .int .i64 r.tries, ev0, .bool r.valid, .bool r.spent, mv0,
  .int .u64 r.t.now, .int .u64 r.t.seq, .bool r.t.closed, .int .i64 r.looked, .int .i64 r.placed, .int .i64 r.err, vv, .slice none 0 0, .bool false] ty_read_Proc (0, 0))) (tp : T p = g ++ [0])
    (us : Sl 1 StrR (fz T h) uv r.users) (ss : Sl 1 NatR (fz T h) sv r.ss) (vs : Sl 3 PresR (fz T h) vv r.vals) (vn : r.vals = [] → vv = .slice none 0 0) (hk8 : r.k ≤ 8) {K : Value → Heap → Prop}
    (hk : ∀ T' h', Only (pre g) T h T' h' → RPR T' h' g p r.begin → K (.tuple #[]) h') : callM P fn_read_Proc_begin #[ptr p] h K := by
  apply e_read_Proc_begin
  unfold d_read_Proc_begin
  have hlen := ss.len
  simp -implicitDefEqProofs [ld_at hp, cel_of hp, stm_at hp, stm_upd, ld_same, cel_same, over, hlen]
  refine makeSlice_vv unSlU64 apU64 zcU64 (n := r.ss.length) (by unfold RP.k at hk8; omega) (by unfold RP.k at hk8; omega) (by unfold RP.k at hk8; unfold maxLen; omega) fun eb h1 n1 e1 c1 => ?_
  have o0 := fun o' => Only.upd (U := pre g) (o' := o') w hp (tp ▸ pre_app _ _)
  have hp0 := upd_same' h p (.cells #[.int .i64 r.who, uv, .int .i64 r.of, sv, .int .i64 0, .int .i64 0, .int .i64 r.tries, ev0, .bool r.valid, .bool r.spent, mv0, .int .u64 r.t.now, .int .u64 r.t.seq, .bool r.t.closed, .int .i64 r.looked, .int .i64 r.placed, .int .i64 r.err, vv, .slice none 0 0, .bool false] ty_read_Proc (0, 0))
  have o0 := o0 (.cells #[.int .i64 r.who, uv, .int .i64 r.of, sv, .int .i64 0, .int .i64 0, .int .i64 r.tries, ev0, .bool r.valid, .bool r.spent, mv0, .int .u64 r.t.now, .int .u64 r.t.seq, .bool r.t.closed, .int .i64 r.looked, .int .i64 r.placed, .int .i64 r.err, vv, .slice none 0 0, .bool false] ty_read_Proc (0, 0))
  generalize upd h p _ = h0 at *
  have hp1 := e1 _ _ hp0
  have o1 : Only (pre g) T h0 (tset T eb (g ++ [1])) h1 := Only.enew _ o0.wf e1 n1 c1
  have ne1 : p ≠ eb := ne_fresh hp0 n1
  have tp1 : (tset T eb (g ++ [1])) p = g ++ [0] := by rw [tset_ne ne1]; exact tp
  have te1 : (tset T eb (g ++ [1])) eb = g ++ [1] := tset_same _ _ _
  generalize tset T eb (g ++ [1]) = T1 at *
  unfold d_read_Proc_begin_1
  simp -implicitDefEqProofs [ld_at hp1, cel_of hp1, stm_at hp1, stm_upd, ld_same, cel_same, over]
  have o2 := Only.upd (U := fun t => t = g ++ [0]) (o' := .cells #[.int .i64 r.who, uv, .int .i64 r.of, sv, .int .i64 0, .int .i64 0, .int .i64 r.tries, .slice (some ⟨eb, 0, none⟩) r.ss.length r.ss.length, .bool true, .bool false, mv0, .int .u64 r.t.now, .int .u64 r.t.seq, .bool r.t.closed, .int .i64 r.looked, .int .i64 r.placed, .int .i64 r.err, vv, .slice none 0 0, .bool false] ty_read_Proc (0, 0)) o1.wf hp1 tp1
  have hp2 := upd_same' h1 p (.cells #[.int .i64 r.who, uv, .int .i64 r.of, sv, .int .i64 0, .int .i64 0, .int .i64 r.tries, .slice (some ⟨eb, 0, none⟩) r.ss.length r.ss.length, .bool true, .bool false, mv0, .int .u64 r.t.now, .int .u64 r.t.seq, .bool r.t.closed, .int .i64 r.looked, .int .i64 r.placed, .int .i64 r.err, vv, .slice none 0 0, .bool false] ty_read_Proc (0, 0))
  have c2 := o2.k.at c1 te1 (ne_tag (by simp))
  generalize upd h1 p _ = h2 at *
  refine makeMap_vv mpSeen fun mr h3 n3 e3 m3 => ?_
  obtain ⟨om, hom⟩ := m3.lt
  have o3 : Only (fun t => t = g ++ [0]) T1 h2 (tset T1 mr (g ++ [2])) h3 := Only.enew _ o2.wf e3 n3 hom
  have hp3 := e3 _ _ hp2
  have ne2 : p ≠ mr := ne_fresh hp2 n3
  have ne3 : eb ≠ mr := ne_fresh c2.1 n3
  have tp3 : (tset T1 mr (g ++ [2])) p = g ++ [0] := by rw [tset_ne ne2]; exact tp1
  have te3 : (tset T1 mr (g ++ [2])) eb = g ++ [1] := by rw [tset_ne ne3]; exact te1
  have tm3 : (tset T1 mr (g ++ [2])) mr = g ++ [2] := tset_same _ _ _
  generalize tset T1 mr (g ++ [2]) = T3 at *
  simp -implicitDefEqProofs [ld_at hp3, cel_of hp3, stm_at hp3, stm_upd, ld_same, cel_same, over]
  have o4 := Only.upd (U := fun t => t = g ++ [0]) (o' := .cells #[.int .i64 r.who, uv, .int .i64 r.of, sv, .int .i64 0, .int .i64 0, .int .i64 r.tries, .slice (some ⟨eb, 0, none⟩) r.ss.length r.ss.length, .bool true, .bool false, .map (some mr), .int .u64 r.t.now, .int .u64 r.t.seq, .bool r.t.closed, .int .i64 r.looked, .int .i64 r.placed, .int .i64 r.err, vv, .slice none 0 0, .bool false] ty_read_Proc (0, 0)) o3.wf hp3 tp3
  have oall : Only (pre g) T h T3 _ := (((o0.trans o1).up o2 fun t => eq_pre).up o3 fun t => eq_pre).up o4 fun t => eq_pre
  have e := oall.ext gg.nil
  refine hk T3 _ oall ⟨uv, sv, _, mr, vv, upd_same' _ _ _, tp3, us.ext (@StrR.ext) e, ss.ext (@NatR.ext) e, ?_, tm3, ?_, vs.ext (@PresR.ext) e, vn⟩
  · have c4 := (o4.k.at (e3 _ _ c2.1) te3 (ne_tag (by simp))).1
    exact ⟨made_row (by unfold RP.k at hk8; unfold maxLen; omega) c4, fun b hb => by simp [rowOf] at hb; subst hb; exact te3⟩
  · refine ⟨fun _ => none, m3.of (by rw [hom]; exact (o4.k.at hom tm3 (ne_tag (by simp))).1), fun i => ?_⟩
    simp -implicitDefEqProofs [RP.begin]
theorem RPX.cp {T : Tags} {h : Heap} {g : Tag} {p : Nat} {r : RP} {uv sv ev : Value} {mr : Nat} {vv : Value} (x : RPX T h g p r uv sv ev mr vv) : h p = some (.cells #[.int .i64 r.who, uv, .int .i64 r.of, sv, .int .i64 r.ph, .int .i64 r.at_, .int .i64 r.tries, ev, .bool r.valid, .bool r.spent, .map (some mr),
  .int .u64 r.t.now, .int .u64 r.t.seq, .bool r.t.closed, .int .i64 r.looked, .int .i64 r.placed, .int .i64 r.err, vv, .slice none 0 0, .bool false] ty_read_Proc (0, 0)) := x.hp
theorem RPX.fin {T : Tags} {h : Heap} {g : Tag} {p : Nat} {r : RP} {uv sv ev : Value} {mr : Nat} {vv : Value} (x : RPX T h g p r uv sv ev mr vv) (w : Wf T h) {r' : RP} {vv' v : Value} {c : Array Value} {K : Value → Heap → Prop}
    (hk : ∀ h', Only (pre g) T h T h' → RPR T h' g p r' → K v h') (hc : c = (rpC r' uv sv ev mr vv').toArray)
    (h1 : r'.users = r.users) (h2 : r'.ss = r.ss) (h3 : r'.ep = r.ep) (h4 : r'.seen = r.seen) (h5 : Sl 3 PresR (fz T h) vv' r'.vals) (h6 : r'.vals = [] → vv' = .slice none 0 0) : K v (upd h p (.cells c ty_read_Proc (0, 0))) := by
  obtain ⟨o1, x1⟩ := x.st w hc h1 h2 h3 h4 h5 h6
  exact hk _ (o1.mono fun t => eq_pre) ⟨uv, sv, ev, mr, vv', x1⟩
theorem rnext_ok (ph : Int) {T : Tags} {h : Heap} {g : Tag} {p : Nat} {r : RP} (w : Wf T h) (gg : Gd g) (x : RPR T h g p r) (hat : r.at_ < 1000000) {K : Value → Heap → Prop}
    (hk : ∀ h', Only (pre g) T h T h' → RPR T h' g p (r.next ph) → K (.bool r.last) h') : callM P fn_read_Proc_next #[ptr p, .int .i64 ph] h K := by
  apply e_read_Proc_next
  unfold d_read_Proc_next
  obtain ⟨uv, sv, ev, mr, vv, x⟩ := x
  have cp := x.cp
  have hlen := x.ss.len
  have hw : IntKind.i64.wrap ((r.at_ : Int) + 1) = (r.at_ + 1 : Nat) := by rw [wrap64_id (by omega) (by omega)]; omega
  simp only [ncV_p, ov_s, faV_p, ldV_c, Nat.zero_add, cel_of cp, List.getElem?_toArray, List.getElem?_cons_succ, List.getElem?_cons_zero, bin_add, hw]
  by_cases hl : r.at_ + 1 < r.k
  · have hl' : ((r.at_ + 1 : Nat) : Int) < r.ss.length := by unfold RP.k at hl; omega
    simp -implicitDefEqProofs [ld_at cp, cel_of cp, stm_at cp, stm_upd, ld_same, cel_same, over, hlen, hl', -Int.natCast_add]
    have e : r.next ph = { r with at_ := r.at_ + 1 } := by simp [RP.next, hl]
    have e2 : r.last = false := by simp [RP.last, hl]
    rw [e, e2] at hk
    exact x.fin w hk rfl rfl rfl rfl rfl x.vs x.vn
  · have hl' : ¬ ((r.at_ + 1 : Nat) : Int) < r.ss.length := by unfold RP.k at hl; omega
    unfold d_read_Proc_next_1
    simp -implicitDefEqProofs [ld_at cp, cel_of cp, stm_at cp, stm_upd, ld_same, cel_same, over, hlen, hl', -Int.natCast_add]
    have e : r.next ph = { r with ph := ph, at_ := 0 } := by simp [RP.next, hl]
    have e2 : r.last = true := by simp [RP.last, hl]
    rw [e, e2] at hk
    exact x.fin w hk rfl rfl rfl rfl rfl x.vs x.vn
theorem rdone_ok {T : Tags} {h : Heap} {g : Tag} {p : Nat} {r : RP} (x : RPR T h g p r) {K : Value → Heap → Prop} (hk : K (.bool (decide (r.ph = 8))) h) : callM P fn_read_Proc_Done #[ptr p] h K := by
  apply e_read_Proc_Done
  unfold d_read_Proc_Done
  obtain ⟨uv, sv, ev, mr, vv, x⟩ := x
  have cp := x.cp
  simp -implicitDefEqProofs [ld_at cp, cel_of cp, stm_at cp, stm_upd, ld_same, cel_same, over]
  exact hk
theorem rplaced_ok {T : Tags} {h : Heap} {g : Tag} {p : Nat} {r : RP} (x : RPR T h g p r) {K : Value → Heap → Prop} (hk : K (.int .i64 r.placed) h) : callM P fn_read_Proc_Placed #[ptr p] h K := by
  apply e_read_Proc_Placed
  unfold d_read_Proc_Placed
  obtain ⟨uv, sv, ev, mr, vv, x⟩ := x
  have cp := x.cp
  simp -implicitDefEqProofs [ld_at cp, cel_of cp, stm_at cp, stm_upd, ld_same, cel_same, over]
  exact hk
theorem nat_at {F : Heap} {v : Value} {l : List Nat} (x : Sl 1 NatR F v l) {i : Nat} (hi : i < l.length) {k : IntKind} : ∃ b p, iaV (some (none, 1)) v (.int k i) = some (.pointer (some ⟨b, p, none⟩)) ∧ ∀ h', Ext F h' → cel h' b p = some (.int .i64 l[i]) := by
  obtain ⟨b, p, c, h1, h2, h3⟩ := x.at (k := k) (i := i) (by omega) (by omega)
  refine ⟨b, p, h1, fun h' e => ?_⟩
  have hc : c = [.int .i64 l[i]] := h3
  subst hc
  have := (cels_get (cels_ext e h2)).2 0 (by simp)
  simpa using this
theorem rwaits_ok {T : Tags} {h : Heap} {g : Tag} {p : Nat} {r : RP} (x : RPR T h g p r) (hat : r.ph = 4 → r.at_ < r.k) {K : Value → Heap → Prop} (hk : K (.int .i64 r.waits) h) : callM P fn_read_Proc_Waits #[ptr p] h K := by
  apply e_read_Proc_Waits
  unfold d_read_Proc_Waits d_read_Proc_Waits_1
  obtain ⟨uv, sv, ev, mr, vv, x⟩ := x
  have cp := x.cp
  by_cases h4 : r.ph = 4
  · have hat := hat h4
    obtain ⟨b, o, i1, i2⟩ := nat_at x.ss (k := .i64) hat
    simp -implicitDefEqProofs [ld_at cp, cel_of cp, stm_at cp, stm_upd, ld_same, cel_same, over, h4, i1, i2 _ (fz_ext _ _)]
    refine kv hk ?_
    unfold RP.k at hat
    simp -implicitDefEqProofs [RP.waits, h4, RP.s, List.getD_eq_getElem?_getD, hat]
  · simp -implicitDefEqProofs [ld_at cp, cel_of cp, stm_at cp, stm_upd, ld_same, cel_same, over, h4]
    exact kv hk (by simp [RP.waits, h4])
theorem renabled_ok {T : Tags} {h : Heap} {g gh : Tag} {p hp : Nat} {r : RP} {H : Hall} (x : RPR T h g p r) (y : HallR T h gh hp H) (hat : r.ph = 4 → r.at_ < r.k) (hss : ∀ s ∈ r.ss, s < H.n) {K : Value → Heap → Prop}
    (hk : ∀ h', Ext h h' → K (.bool (r.enabled H)) h') : callM P fn_read_Proc_Enabled #[ptr p, ptr hp] h K := by
  apply e_read_Proc_Enabled
  unfold d_read_Proc_Enabled
  have x0 := x
  obtain ⟨uv, sv, ev, mr, vv, x⟩ := x
  have cp := x.cp
  by_cases h8 : r.ph = 8
  · simp -implicitDefEqProofs [ld_at cp, cel_of cp, stm_at cp, stm_upd, ld_same, cel_same, over, h8]
    exact kb (hk h (Ext.refl h)) (by simp [RP.enabled, h8])
  · simp -implicitDefEqProofs [ld_at cp, cel_of cp, stm_at cp, stm_upd, ld_same, cel_same, over, h8]
    refine rwaits_ok x0 hat ?_
    by_cases h4 : r.ph = 4
    · have hat := hat h4
      have e : r.waits = r.s := by simp [RP.waits, h4]
      have hs : r.s < H.n := by
        unfold RP.k at hat
        have : r.s = r.ss[r.at_] := by simp [RP.s, List.getD_eq_getElem?_getD, hat]
        rw [this]; exact hss _ (List.getElem_mem hat)
      have hneg : ¬ ((r.s : Int) < 0) := by omega
      rw [e]
      simp -implicitDefEqProofs [hneg]
      refine rwaits_ok x0 (fun _ => hat) ?_
      rw [e]
      refine free_ok y hs fun h' e' => ?_
      exact kb (hk h' e') (by simp [RP.enabled, h4])
    · have e : r.waits = -1 := by simp [RP.waits, h4]
      rw [e]
      simp -implicitDefEqProofs
      exact kb (hk h (Ext.refl h)) (by simp [RP.enabled, h4, h8])
end Go.Proofs.Ytcnphhhcknhhaaa

namespace Go.Proofs.Ytcnphhhcknhhaaa
open Go Go.Den Go.MapKept
set_option linter.unusedSimpArgs false
set_option linter.unusedVariables false
set_option maxRecDepth 20000
theorem bsPres : bsI P ty_Sl_api_Presence = some (ty_api_Presence, 3, #[.int .i64 0, .int .i64 0, .int .i64 0]) := by kernel_rfl
theorem unSlPres : P.underlying ty_Sl_api_Presence = some (.slice ty_api_Presence) := by kernel_rfl
theorem apPres : apC P ty_api_Presence = some (3, 24, 3) := by kernel_rfl
theorem bdReply (a : Int) : bdV (binf P ty_api_Reply) [(0, .int .i64 a)] = some (.agg #[.int .i64 a, .slice none 0 0, .slice none 0 0, .bool false]) := by kernel_rfl
theorem bdReply0 : bdV (binf P ty_api_Reply) [] = some (.agg #[.int .i64 0, .slice none 0 0, .slice none 0 0, .bool false]) := by kernel_rfl
theorem zcReply : zc P ty_api_Reply = some #[.int .i64 0, .slice none 0 0, .slice none 0 0, .bool false] := by kernel_rfl
def U03 (g t : Tag) : Prop := t = g ++ [0] ∨ t = g ++ [3]
theorem U03.pre {g t : Tag} (h : U03 g t) : Den.pre g t := by rcases h with rfl | rfl <;> exact pre_app _ _
theorem U03.nil (g : Tag) : ¬ U03 g [] := by rintro (h | h) <;> simp at h
theorem U03.n1 (g : Tag) : ¬ U03 g (g ++ [1]) := by rintro (h | h) <;> exact ne_tag (by simp) h
theorem U03.n2 (g : Tag) : ¬ U03 g (g ++ [2]) := by rintro (h | h) <;> exact ne_tag (by simp) h
def AnsI (T : Tags) (h : Heap) (g : Tag) (p : Nat) (r : RP) (uv sv ev : Value) (mr : Nat) (v25 : Value) (h' : Heap) : Prop :=
  ∃ (T' : Tags) (vv' : Value) (i : Nat), Only (U03 g) T h T' h' ∧ T' p = g ++ [0] ∧ h' p = some (.cells (rpC { r with placed := r.looked } uv sv ev mr vv').toArray ty_read_Proc (0, 0)) ∧
    Rw T' h' (g ++ [3]) 3 ty_api_Presence vv' i (((r.users.take i).map r.tell).flatMap presC) ∧ (∀ b, rowOf vv' = some b → h b = none) ∧ (i = 0 → vv' = .slice none 0 0) ∧ i ≤ r.users.length ∧ v25 = .int .i64 i
theorem ranswer_ok {T : Tags} {h : Heap} {g : Tag} {p : Nat} {r : RP} (w : Wf T h) (gg : Gd g) (x : RPR T h g p r) (hv : r.vals = []) (hu : r.users.length ≤ 1000) (hof : r.of ≤ 1000) (hb : ∀ i b, r.seen i = some b → BkG b) {K : Value → Heap → Prop}
    (hk : ∀ T' h', Only (pre g) T h T' h' → RPR T' h' g p r.answer → K (.tuple #[]) h') : callM P fn_read_Proc_answer #[ptr p] h K := by
  apply e_read_Proc_answer
  unfold d_read_Proc_answer
  obtain ⟨uv, sv, ev, mr, vv, x⟩ := x
  have cp := x.cp
  have hvv := x.vn hv
  subst hvv
  cases hc : r.t.closed with
  | true =>
    unfold d_read_Proc_answer_1
    simp -implicitDefEqProofs [ld_at cp, cel_of cp, stm_at cp, stm_upd, ld_same, cel_same, over, hc, bdReply]
    have e : r.answer = { r with placed := r.looked, err := 5, vals := [] } := by simp [RP.answer, hc]
    rw [e] at hk
    exact x.fin w (fun h' => hk T h') (by simp [rpC, hc]) rfl rfl rfl rfl (.inl ⟨rfl, _, _, rfl⟩) (fun _ => rfl)
  | false =>
    have hlen := x.us.len
    unfold d_read_Proc_answer_2
    simp -implicitDefEqProofs [ld_at cp, cel_of cp, stm_at cp, stm_upd, ld_same, cel_same, over, hc, hlen]
    have e : r.answer = { r with placed := r.looked, vals := r.users.map r.tell } := by simp [RP.answer, hc, hv]
    have o1 := fun o' => Only.upd (U := U03 g) (o' := o') w x.hp (.inl x.tp)
    refine loop_on [0, 23, 24] (fun s h' => AnsI T h g p r uv sv ev mr (s 25) h') (fun s _ => (r.users.length - num (s 25)).toNat)
      ⟨T, .slice none 0 0, 0, o1 _, x.tp, by rw [upd_same']; simp [rpC, hc], Rw.nil _ _ _ _ _, fun b hb => by simp [rowOf] at hb, fun _ => rfl, by omega, rfl⟩ ?_
    rintro s h1 hf ⟨T1, vv1, i, o1, tp1, hp1, r1, f1, z1, hi, s25⟩
    have s0 : s 0 = ptr p := by simpa using hf 0 (by simp)
    have s23 : s 23 = uv := by simpa using hf 23 (by simp)
    have s24 : s 24 = .int .i64 r.users.length := by simpa using hf 24 (by simp)
    unfold d_read_Proc_answer_3
    simp only [s24, s25, bin_lss, ov_s, cd_b]
    refine ⟨fun hc => ?_, fun hc => ?_⟩
    · have hlt : i < r.users.length := by have : ((i : Int) < r.users.length) := by simpa using hc
                                          omega
      have e1 := o1.ext (U03.nil g)
      obtain ⟨b, o, i1, i2⟩ := str_at x.us (k := .i64) hlt
      have hsz := str_sizes x.us _ (List.getElem_mem hlt)
      have hw : IntKind.i64.wrap ((i : Int) + 1) = i + 1 := wrap64_id (by omega) (by omega)
      have sn1 := x.sn.kp o1.k x.mt (U03.n2 g) (U03.nil g)
      obtain ⟨f, m1, sn1⟩ := sn1
      have cp1 := hp1
      simp only [rpC] at cp1
      unfold d_read_Proc_answer_4
      simp -implicitDefEqProofs [s0, s23, s25, i1, i2 _ (e1.trans (fz_ext _ _)), ld_at cp1, cel_of cp1, stm_at cp1, stm_upd, ld_same, cel_same, over]
      refine stripe_ok _ _ hof hsz ?_
      unfold d_read_Proc_answer_5
      simp only [ldV_c, cel_of cp1, List.getElem?_toArray, List.getElem?_cons_succ, List.getElem?_cons_zero, true_and]
      refine lookup_lk mpSeen (k := .int .i64 (stripeOf r.users[i] r.of)) rfl m1 ?_
      have hpr : ∃ a c, lkA (.agg #[.slice none 0 0, .slice none 0 0]) false (f (.int .i64 (stripeOf r.users[i] r.of))) = .agg #[a, c] ∧ BookR (fz T1 h1) a c ((r.seen (stripeOf r.users[i] r.of)).getD []) ∧ BkG ((r.seen (stripeOf r.users[i] r.of)).getD []) := by
        have := sn1 (stripeOf r.users[i] r.of)
        cases hs : r.seen (stripeOf r.users[i] r.of) with
        | none => simp only [hs] at this; exact ⟨_, _, by rw [this]; rfl, BookR.nil _, BkG.nil⟩
        | some b => simp only [hs] at this; obtain ⟨a, c, q1, q2⟩ := this; exact ⟨a, c, by rw [q1]; rfl, q2, hb _ _ hs⟩
      obtain ⟨a, c, q1, q2, q3⟩ := hpr
      rw [q1]
      refine presence_ok _ q3.so _ _ (fz_ext _ _) q2 q3.len (q3.ss _) fun h2 e2 => ?_
      have hp2 := e2 _ _ hp1
      have cp2 := e2 _ _ cp1
      unfold d_read_Proc_answer_6
      simp -implicitDefEqProofs [ld_at cp2, cel_of cp2, stm_at cp2, stm_upd, ld_same, cel_same, over]
      refine bs_one bsPres (by simp [presC]) (by omega) fun pb h3 n3 e3 c3 => ?_
      have cp3 := e3 _ _ cp2
      simp -implicitDefEqProofs [ld_at cp3, cel_of cp3, stm_at cp3, stm_upd, ld_same, cel_same, over]
      have o3 : Only non T1 h1 T1 h3 := Only.of_ext o1.wf (e2.trans e3)
      refine Rw.app0 (m := 1) (news := _) unSlPres apPres (by omega) o3.wf (r1.kp o3.k (not_non _)) (cels_one c3 (by simp [presC])) (by simp [presC]) (by unfold maxLen; omega) (by omega) fun vv2 T2 h4 o4 r4 ha => ?_
      have b4 := o4.k.at (e3 _ _ hp2) tp1 (ne_tag (by simp))
      have cp4 := b4.1
      simp only [rpC] at cp4
      have ho := r4.one
      simp -implicitDefEqProofs [s0, s23, s24, s25, ld_at cp4, cel_of cp4, stm_at cp4, stm_upd, ld_same, cel_same, over, ho.1, ho.2, hw]
      refine ⟨?_, by omega⟩
      have o5 := fun o' => Only.upd (U := fun t => t = g ++ [0]) (o' := o') o4.wf b4.1 b4.2
      refine ⟨T2, vv2, i + 1, ((o1.up o3 non_up).up o4 fun t e => .inr e).up (o5 _) fun t e => .inl e, b4.2, by rw [upd_same']; simp [rpC], ?_, fun b hb => ?_, fun h => by omega, by omega, by simp⟩
      · have := r4.kp (o5 (.cells (rpC { r with placed := r.looked } uv sv ev mr vv2).toArray ty_read_Proc (0, 0))).k (ne_tag (by simp))
        rw [List.take_succ_eq_append_getElem hlt, List.map_append, List.flatMap_append]
        simpa [rpC, RP.tell] using this
      · rcases ha with ha | ⟨j, ha, hj⟩
        · exact f1 b (by rw [← ha]; exact hb)
        · rw [ha] at hb; simp only [Option.some.injEq] at hb; subst hb
          exact o1.fresh (fresh_of (e2.trans e3) hj)
    · have : i = r.users.length := by have : ¬ ((i : Int) < r.users.length) := by simpa using hc
                                      omega
      subst this
      simp -implicitDefEqProofs
      rw [List.take_length] at r1
      rw [e] at hk
      have of := o1.freeze (g ++ [3])
      refine hk _ h1 (of.mono fun t => U03.pre) ⟨uv, sv, ev, mr, vv1, hp1, ?_, x.us.ext (@StrR.ext) (of.ext (U03.nil g)), x.ss.ext (@NatR.ext) (of.ext (U03.nil g)), x.ep.kp of.k (U03.n1 g), ?_, x.sn.kp of.k x.mt (U03.n2 g) (U03.nil g), ?_, fun h => z1 (by simpa using h)⟩
      · exact (of.tg p _ x.hp).trans x.tp
      · obtain ⟨f, m, _⟩ := x.sn
        obtain ⟨om, hom⟩ := m.lt
        exact (of.tg mr _ hom).trans x.mt
      · have : Row 3 ty_api_Presence (fz (fun b => if h b = none ∧ T1 b = g ++ [3] then [] else T1 b) h1) vv1 r.users.length ((r.users.map r.tell).flatMap presC) := r1.1.of_at fun b hb => by
          obtain ⟨o, ho⟩ := r1.1.lt b hb
          rw [fz_at ho (by simp [f1 b hb, r1.2 b hb]), ho]
        have hl : r.users.length = (r.users.map r.tell).length := by simp
        rw [hl] at this
        exact Row.slE (enc := presC) (R := PresR) (fun _ => rfl) (fun _ => rfl) this
end Go.Proofs.Ytcnphhhcknhhaaa

namespace Go.Proofs.Ytcnphhhcknhhaaa
open Go Go.Den Go.MapKept
set_option linter.unusedSimpArgs false
set_option linter.unusedVariables false
set_option maxRecDepth 20000
theorem rjudge_ok {T : Tags} {h : Heap} {g : Tag} {p : Nat} {r : RP} (w : Wf T h) (gg : Gd g) (x : RPR T h g p r) (rg : RG r) (hv : r.vals = []) {K : Value → Heap → Prop}
    (hk : ∀ T' h', Only (pre g) T h T' h' → RPR T' h' g p r.judge → K (.tuple #[]) h') : callM P fn_read_Proc_judge #[ptr p] h K := by
  apply e_read_Proc_judge
  unfold d_read_Proc_judge
  have x0 := x
  obtain ⟨uv, sv, ev, mr, vv, x⟩ := x
  have cp := x.cp
  simp +contextual -implicitDefEqProofs [ld_at cp, cel_of cp, stm_at cp, stm_upd, ld_same, cel_same, over]
  cases hcv : (r.t.closed || r.valid) with
  | true =>
    unfold d_read_Proc_judge_1
    refine ⟨fun _ => ?_, fun h1 h2 => by simp [h1, h2] at hcv⟩
    refine ranswer_ok w gg x0 hv rg.us rg.of rg.sn fun T1 h1 o1 x1 => ?_
    obtain ⟨uv1, sv1, ev1, mr1, vv1, x1⟩ := x1
    have cp1 := x1.cp
    simp -implicitDefEqProofs [ld_at cp1, cel_of cp1, stm_at cp1, stm_upd, ld_same, cel_same, over]
    have e : r.judge = { r.answer with ph := 8 } := by simp [RP.judge, hcv]
    rw [e] at hk
    exact x1.fin o1.wf (fun h' o => hk T1 h' (o1.trans o)) rfl rfl rfl rfl rfl x1.vs x1.vn
  | false =>
    have hcv' : r.t.closed = false ∧ r.valid = false := by simpa using hcv
    unfold d_read_Proc_judge_2
    refine ⟨fun hh => by rcases hh with hh | hh <;> simp [hcv'.1, hcv'.2] at hh, fun _ _ => ?_⟩
    simp +contextual -implicitDefEqProofs [ld_at cp, cel_of cp, stm_at cp, stm_upd, ld_same, cel_same, over]
    cases hst : (r.spent || decide (r.tries = 0)) with
    | true =>
      have e : r.judge = { r with ph := 4 } := by simp only [RP.judge, hcv, hst]; simp
      rw [e] at hk
      refine ⟨fun _ => ?_, fun h1 h2 => ?_⟩
      · exact x.fin w (fun h' o => hk T h' o) rfl rfl rfl rfl rfl x.vs x.vn
      · simp -implicitDefEqProofs [h1, h2] at hst
    | false =>
      have e : r.judge = RP.begin { r with tries := r.tries - 1 } := by simp only [RP.judge, hcv, hst]; simp
      rw [e] at hk
      unfold d_read_Proc_judge_3
      have ht := rg.tr
      have hst' : r.spent = false ∧ ¬ r.tries = 0 := by simpa using hst
      have hw : IntKind.i64.wrap (r.tries - 1) = r.tries - 1 := wrap64_id (by omega) (by omega)
      refine ⟨fun hh => by rcases hh with hh | hh <;> simp [hst'.1, hst'.2] at hh, fun _ _ => ?_⟩
      simp -implicitDefEqProofs [ld_at cp, cel_of cp, stm_at cp, stm_upd, ld_same, cel_same, over, hw]
      have o1 := fun o' => Only.upd (U := pre g) (o' := o') w x.hp (x.tp ▸ pre_app _ _)
      have e1 := fun o' => (o1 o').ext gg.nil
      refine rbegin_ok (r := { r with tries := r.tries - 1 }) (o1 _).wf gg (upd_same' _ _ _) x.tp (x.us.ext (@StrR.ext) (e1 _)) (x.ss.ext (@NatR.ext) (e1 _)) (x.vs.ext (@PresR.ext) (e1 _)) x.vn rg.k8 fun T2 h2 o2 x2 => ?_
      exact hk T2 h2 ((o1 _).trans o2) x2
theorem rreply_ok {T : Tags} {h : Heap} {g : Tag} {p : Nat} {r : RP} (w : Wf T h) (gg : Gd g) (x : RPR T h g p r) {K : Value → Heap → Prop}
    (hk : ∀ h' vv, Ext h h' → (r.ph = 8 → Sl 3 PresR (fz T h') vv r.vals) → (¬ r.ph = 8 → vv = .slice none 0 0) → K (.agg #[.int .i64 (if r.ph = 8 then r.err else 0), vv, .slice none 0 0, .bool false]) h') : callM P fn_read_Proc_Reply #[ptr p] h K := by
  apply e_read_Proc_Reply
  unfold d_read_Proc_Reply
  rw [zcReply]
  refine nw_intro fun v1 h1 n1 e1 c1 => ?_
  have x1 := x.kp (Only.of_ext (U := non) w e1).k (Off.non _) (not_non _)
  refine rdone_ok x1 ?_
  obtain ⟨uv, sv, ev, mr, vv, x2⟩ := x1
  have cp := x2.cp
  have ho := x2.vs.one
  unfold d_read_Proc_Reply_1
  by_cases h8 : r.ph = 8
  · unfold d_read_Proc_Reply_2
    simp -implicitDefEqProofs [h8, ld_at cp, cel_of cp, stm_at cp, ld_at c1, cel_of c1, stm_at c1, stm_upd, ld_same, cel_same, over, ho.1, ho.2]
    refine kv (hk _ vv (ext_upd n1 e1) (fun _ => ?_) (fun h => absurd h8 h)) (by simp [h8])
    obtain ⟨uv, sv, ev, mr', vv', x0⟩ := x
    have hcc := (e1 _ _ x0.hp)
    rw [x2.hp] at hcc
    have : vv = vv' := by simp [rpC] at hcc; exact hcc.2.2.2.2
    subst this
    exact x0.vs.ext (@PresR.ext) (fz_of_ext (ext_upd n1 e1))
  · simp -implicitDefEqProofs [h8, ld_at c1, cel_of c1, stm_at c1, stm_upd, ld_same, cel_same, over, bdReply0]
    exact kv (hk _ (.slice none 0 0) (ext_upd n1 e1) (fun h => absurd h h8) (fun _ => rfl)) (by simp [h8])
end Go.Proofs.Ytcnphhhcknhhaaa

namespace Go.Proofs.Ytcnphhhcknhhaaa
open Go Go.Den Go.MapKept
set_option linter.unusedSimpArgs false
set_option linter.unusedVariables false
set_option maxRecDepth 20000
theorem RPX.ste {T : Tags} {h : Heap} {g : Tag} {p : Nat} {r : RP} {uv sv ev : Value} {mr : Nat} {vv : Value} (x : RPX T h g p r uv sv ev mr vv) (w : Wf T h) {i b : Nat} (hi : i < r.k) (hb : rowOf ev = some b) {v : Int} {K : Heap → Prop}
    (hk : ∀ h', Only (fun t => t = g ++ [1]) T h T h' → RPX T h' g p { r with ep := epset r.ep i v } uv sv ev mr vv → K h') : stM (some 1) (.pointer (some ⟨b, i, none⟩)) (.int .u64 v) h K := by
  have tb := x.ep.2 b hb
  refine row1_st (F := fun i => .int .u64 (r.ep i)) x.ep.1 hb hi (by simp) (by simp) fun h' hk' hrow => ?_
  obtain ⟨ob, hob⟩ := x.ep.1.lt b hb
  obtain ⟨ob', hob'⟩ := hrow.lt b hb
  have e : h' = upd h b ob' := upd_of hk' hob'
  have o1 : Only (fun t => t = g ++ [1]) T h T h' := by rw [e]; exact Only.upd w hob tb
  have e1 := o1.ext (by simp)
  obtain ⟨f, m, _⟩ := x.sn
  refine hk h' o1 ⟨(o1.k.at x.hp x.tp (ne_tag (by simp))).1, x.tp, x.us.ext (@StrR.ext) e1, x.ss.ext (@NatR.ext) e1, ⟨?_, x.ep.2⟩, x.mt, x.sn.kp o1.k x.mt (ne_tag (by simp)) (by simp), x.vs.ext (@PresR.ext) e1, x.vn⟩
  refine row1_congr hrow fun k _ => ?_
  simp only [epset]
  split <;> rfl
theorem RPX.up {T : Tags} {h : Heap} {g : Tag} {p : Nat} {r : RP} {uv sv ev : Value} {mr : Nat} {vv : Value} (x : RPX T h g p r uv sv ev mr vv) (w : Wf T h) {s : Int} {a c : Value} {b : Book} (hb : BookR (fz T h) a c b) {K : Heap → Prop}
    (hk : ∀ h', Only (fun t => t = g ++ [2]) T h T h' → RPX T h' g p { r with seen := seenset r.seen s b } uv sv ev mr vv → K h') :
    uM P (Instr.mapUpdate ty_Map_int_omap_Map_string_doorman_book_Entry (.map (some mr)) (.int .i64 s) (.agg #[a, c])) h K := by
  obtain ⟨f, m, hs⟩ := x.sn
  refine mapUpdate_u mpSeen (k := .int .i64 s) rfl m fun h' hk' m' => ?_
  obtain ⟨om, hom⟩ := m.lt
  obtain ⟨om', hom'⟩ := m'.lt
  have e : h' = upd h mr om' := upd_of hk' hom'
  have o1 : Only (fun t => t = g ++ [2]) T h T h' := by rw [e]; exact Only.upd w hom x.mt
  have e1 := o1.ext (by simp)
  refine hk h' o1 ⟨(o1.k.at x.hp x.tp (ne_tag (by simp))).1, x.tp, x.us.ext (@StrR.ext) e1, x.ss.ext (@NatR.ext) e1, x.ep.kp o1.k (ne_tag (by simp)), x.mt, ⟨_, m', fun i => ?_⟩, x.vs.ext (@PresR.ext) e1, x.vn⟩
  simp only [seenset]
  by_cases his : i = s
  · subst his
    simp only [if_true]
    exact ⟨a, c, mset_same _ _ _, hb.ext e1⟩
  · simp only [if_neg his]
    have hne : (Value.int .i64 i) ≠ .int .i64 s := fun h => his (by simpa using h)
    have := hs i
    cases hsi : r.seen i with
    | none => simp only [hsi] at this ⊢; rw [mset_ne _ _ _ hne]; exact this
    | some b' => simp only [hsi] at this ⊢; obtain ⟨q1, q2, q3, q4⟩ := this; exact ⟨q1, q2, by rw [mset_ne _ _ _ hne]; exact q3, q4.ext e1⟩
theorem rstep_ok (n : Int) {T : Tags} {h : Heap} {g gh : Tag} {p q : Nat} {r : RP} {H : Hall} (w : Wf T h) (gg : Gd g) (ggh : Gd gh) (d1 : Off (pre gh) g) (d2 : Off (pre g) gh) (x : RPR T h g p r) (y : HallR T h gh q H) (rg : RG r) (hg : HG H) (rs : RS r H) {K : Value → Heap → Prop}
    (hk : ∀ T' h', Only (two (pre gh) (pre g)) T h T' h' → HallR T' h' gh q (r.step H n).2 → RPR T' h' g p (r.step H n).1 → K (.tuple #[]) h') : callM P fn_read_Proc_Step #[ptr p, ptr q, .int .i64 n] h K := by
  apply e_read_Proc_Step
  unfold d_read_Proc_Step
  refine renabled_ok x y (fun h4 => ?_) rs.ss fun h1 e1 => ?_
  · refine rs.at_ (by omega) fun he => ?_
    have := rs.e0 he; omega
  have o1 : Only non T h T h1 := Only.of_ext w e1
  have y1 := y.up o1 (Off.non _) (not_non _)
  have x1 := x.kp o1.k (Off.non _) (not_non _)
  have w1 := o1.wf
  unfold d_read_Proc_Step_1
  cases hen : r.enabled H with
  | false =>
    have e : r.step H n = (r, H) := by simp [RP.step, hen]
    rw [e] at hk
    simp -implicitDefEqProofs
    exact hk T h1 (o1.mono non_up) y1 x1
  | true =>
    have h8 : ¬ r.ph = 8 := fun h => by simp [RP.enabled, h] at hen
    simp -implicitDefEqProofs
    obtain ⟨uv, sv, ev, mr, vv, x2⟩ := x1
    have cp := x2.cp
    have hlen := x2.ss.len
    unfold d_read_Proc_Step_2
    by_cases hs0 : r.ss = []
    · unfold d_read_Proc_Step_3
      have hl0 : r.ss.length = 0 := by simp [hs0]
      simp -implicitDefEqProofs [ld_at cp, cel_of cp, stm_at cp, stm_upd, ld_same, cel_same, over, hlen, hl0, bdReply]
      have e : r.step H n = ({ r with err := 1, vals := [], placed := n, ph := 8 }, H) := by simp [RP.step, hen, hs0]
      rw [e] at hk
      exact x2.fin w1 (fun h' o => hk T h' ((o1.mono non_up).up o two_r) (y1.up o d2 gg.nil)) rfl rfl rfl rfl rfl (.inl ⟨rfl, _, _, rfl⟩) (fun _ => rfl)
    have hl0 : ¬ ((r.ss.length : Int) = 0) := by
      intro h0
      exact hs0 (List.eq_nil_of_length_eq_zero (by omega))
    have hat := rs.at_ h8 hs0
    have hsl := RP.s_lt hat
    have hsn : r.s < H.n := by rw [hsl]; exact rs.ss _ (List.getElem_mem _)
    have hvals := rs.vn h8
    have hep' := rs.ep
    have estep : r.step H n = r.go H n := by simp [RP.step, hen, hs0]
    rw [estep] at hk
    obtain ⟨sb, so, i1, i2⟩ := nat_at x2.ss (k := .i64) hat
    rw [← hsl] at i2
    unfold d_read_Proc_Step_4
    simp -implicitDefEqProofs [ld_at cp, cel_of cp, stm_at cp, stm_upd, ld_same, cel_same, over, hlen, hl0, hs0, i1, i2 _ (fz_ext _ _)]
    have x1 : RPR T h1 g p r := ⟨uv, sv, ev, mr, vv, x2⟩
    by_cases p0 : r.ph = 0
    · unfold d_read_Proc_Step_5
      simp -implicitDefEqProofs [p0, ld_at cp, cel_of cp, stm_at cp, stm_upd, ld_same, cel_same, over]
      refine epoch_ok r.who w1 ggh y1 hsn hg.n8 hg.ac' fun T3 h3 o3 y3 => ?_
      have x3 := x2.kp o3.k d1 ggh.nil
      have cp3 := x3.cp
      obtain ⟨eb, q1, q2, q3⟩ := row1_at (F := fun i => .int .u64 (r.ep i)) (k := .i64) x3.ep.1 hat
      unfold d_read_Proc_Step_6
      simp -implicitDefEqProofs [ld_at cp3, cel_of cp3, stm_at cp3, stm_upd, ld_same, cel_same, over, q2]
      refine x3.ste o3.wf hat q1 fun h4 o4 x4 => ?_
      have cp4 := x4.cp
      have y4 := y3.up o4 (fun t ht e => d2 t ht (e ▸ pre_app _ _)) (by simp)
      have oo : Only (two (pre gh) (pre g)) T h T3 h4 := (((o1.mono non_up).up o3 two_l).up o4 fun t e => two_r _ (e ▸ pre_app _ _))
      have hgo : r.go H n = (RP.next { r with ep := epset r.ep r.at_ (H.ss r.s).v, spent := r.spent || decide (evn H.c.epochs ≤ (H.ss r.s).v) } 1, H.epoch r.who r.s) := by simp [RP.go, p0]
      rw [hgo] at hk
      cases hsp : r.spent with
      | true =>
        simp -implicitDefEqProofs [hsp, ld_at cp4, cel_of cp4, stm_at cp4, stm_upd, ld_same, cel_same, over]
        refine x4.fin o4.wf (v := .tuple #[]) (r' := { r with ep := epset r.ep r.at_ (H.ss r.s).v, spent := true }) (K := fun _ h' => callM P fn_read_Proc_next #[ptr p, .int .i64 1] h' fun _ h'' => K (.tuple #[]) h'') (fun h5 o5 x5 => ?_) (by simp [rpC, p0]) rfl rfl rfl rfl x4.vs x4.vn
        refine rnext_ok 1 o5.wf gg x5 rg.at_ fun h6 o6 x6 => ?_
        simp only [hsp, Bool.true_or] at hk
        exact hk T3 h6 ((oo.up o5 two_r).up o6 two_r) ((y4.up o5 d2 gg.nil).up o6 d2 gg.nil) x6
      | false =>
        obtain ⟨eb, q1, q2, q3⟩ := row1_at (F := fun i => .int .u64 (epset r.ep r.at_ (H.ss r.s).v i)) (k := .i64) x4.ep.1 hat
        simp -implicitDefEqProofs [hsp, ld_at cp4, cel_of cp4, stm_at cp4, stm_upd, ld_same, cel_same, over, q2, q3]
        refine config_ok y4 fun h5 e5 => ?_
        have o5 : Only non T3 h4 T3 h5 := Only.of_ext o4.wf e5
        have x5 := x4.kp o5.k (Off.non _) (not_non _)
        have y5 := y4.up o5 (Off.non _) (not_non _)
        have cp5 := x5.cp
        have q3' := cel_ext e5 q3
        have hep : (H.epoch r.who r.s).c = H.c := rfl
        simp only [hep, cfgC]
        simp -implicitDefEqProofs [ld_at cp5, cel_of cp5, stm_at cp5, stm_upd, ld_same, cel_same, over, q3', fdV, bin_andNot1 _ _ hg.cw.u1]
        refine x5.fin o5.wf (v := .tuple #[]) (r' := { r with ep := epset r.ep r.at_ (H.ss r.s).v, spent := decide (evn H.c.epochs ≤ (H.ss r.s).v) }) (K := fun _ h' => callM P fn_read_Proc_next #[ptr p, .int .i64 1] h' fun _ h'' => K (.tuple #[]) h'') (fun h6 o6 x6 => ?_) (by simp [rpC, p0, epset]) rfl rfl rfl rfl x5.vs x5.vn
        refine rnext_ok 1 o6.wf gg x6 rg.at_ fun h7 o7 x7 => ?_
        simp only [hsp, Bool.false_or] at hk
        exact hk T3 h7 (((oo.up o5 non_up).up o6 two_r).up o7 two_r) ((y5.up o6 d2 gg.nil).up o7 d2 gg.nil) x7
    by_cases p1 : r.ph = 1
    · unfold d_read_Proc_Step_7 d_read_Proc_Step_8
      simp -implicitDefEqProofs [p1, ld_at cp, cel_of cp, stm_at cp, stm_upd, ld_same, cel_same, over]
      refine snap_ok r.who w1 ggh y1 hsn hg.n8 hg.ac' fun T3 h3 a c o3 y3 bk => ?_
      have x3 := x2.kp o3.k d1 ggh.nil
      have cp3 := x3.cp
      unfold d_read_Proc_Step_9
      simp -implicitDefEqProofs [ld_at cp3, cel_of cp3, stm_at cp3, stm_upd, ld_same, cel_same, over]
      refine x3.up o3.wf (s := r.s) bk fun h4 o4 x4 => ?_
      have y4 := y3.up o4 (fun t ht e => d2 t ht (e ▸ pre_app _ _)) (by simp)
      have oo : Only (two (pre gh) (pre g)) T h T3 h4 := (((o1.mono non_up).up o3 two_l).up o4 fun t e => two_r _ (e ▸ pre_app _ _))
      have hgo : r.go H n = (RP.next { r with seen := seenset r.seen r.s (H.ss r.s).snap } 2, H.snap r.who r.s) := by simp [RP.go, p1]
      rw [hgo] at hk
      refine rnext_ok 2 o4.wf gg ⟨uv, sv, ev, mr, vv, x4⟩ rg.at_ fun h5 o5 x5 => ?_
      exact hk T3 h5 (oo.up o5 two_r) (y4.up o5 d2 gg.nil) x5
    unfold d_read_Proc_Step_7 d_read_Proc_Step_10
    simp -implicitDefEqProofs [p0, p1]
    rw [seqM_eq]
    unfold d_read_Proc_Step_11 d_read_Proc_Step_12 d_read_Proc_Step_13
    have wp : ∀ k : Int, 0 ≤ k ∧ k ≤ 8 → IntKind.i64.wrap (k + 1) = k + 1 := fun k hk => wrap64_id (by omega) (by omega)
    by_cases p2 : r.ph = 2
    · unfold d_read_Proc_Step_14 d_read_Proc_Step_15
      simp -implicitDefEqProofs [p2, ld_at cp, cel_of cp, stm_at cp, stm_upd, ld_same, cel_same, over]
      refine look_ok r.who w1 ggh y1 hg.ac' fun T3 h3 o3 y3 => ?_
      have x3 := x2.kp o3.k d1 ggh.nil
      have cp3 := x3.cp
      have w3 : IntKind.i64.wrap 3 = 3 := rfl
      have hgo : r.go H n = ({ r with t := H.t, looked := n, ph := 3 }, H.look r.who) := by simp [RP.go, p2]
      rw [hgo] at hk
      unfold d_read_Proc_Step_16 d_read_Proc_Step_18
      simp -implicitDefEqProofs [ld_at cp3, cel_of cp3, stm_at cp3, stm_upd, ld_same, cel_same, over, p2, w3, tmC]
      exact x3.fin o3.wf (fun h' o => hk T3 h' (((o1.mono non_up).up o3 two_l).up o two_r) (y3.up o d2 gg.nil)) (by simp [rpC]) rfl rfl rfl rfl x3.vs x3.vn
    by_cases p5 : r.ph = 5
    · unfold d_read_Proc_Step_14 d_read_Proc_Step_15
      simp -implicitDefEqProofs [p5, ld_at cp, cel_of cp, stm_at cp, stm_upd, ld_same, cel_same, over]
      refine look_ok r.who w1 ggh y1 hg.ac' fun T3 h3 o3 y3 => ?_
      have x3 := x2.kp o3.k d1 ggh.nil
      have cp3 := x3.cp
      have w3 : IntKind.i64.wrap 6 = 6 := rfl
      have hgo : r.go H n = ({ r with t := H.t, looked := n, ph := 6, placed := n }, H.look r.who) := by simp [RP.go, p5]
      rw [hgo] at hk
      unfold d_read_Proc_Step_16 d_read_Proc_Step_17
      simp -implicitDefEqProofs [ld_at cp3, cel_of cp3, stm_at cp3, stm_upd, ld_same, cel_same, over, p5, w3, tmC]
      exact x3.fin o3.wf (fun h' o => hk T3 h' (((o1.mono non_up).up o3 two_l).up o two_r) (y3.up o d2 gg.nil)) (by simp [rpC]) rfl rfl rfl rfl x3.vs x3.vn
    unfold d_read_Proc_Step_14 d_read_Proc_Step_19
    simp -implicitDefEqProofs [p2, p5]
    by_cases p3 : r.ph = 3
    · unfold d_read_Proc_Step_20
      simp -implicitDefEqProofs [p3, ld_at cp, cel_of cp, stm_at cp, stm_upd, ld_same, cel_same, over]
      refine epoch_ok r.who w1 ggh y1 hsn hg.n8 hg.ac' fun T3 h3 o3 y3 => ?_
      have x3 := x2.kp o3.k d1 ggh.nil
      have cp3 := x3.cp
      have oo : Only (two (pre gh) (pre g)) T h T3 h3 := (o1.mono non_up).up o3 two_l
      have hgo : r.go H n = (let q : RP := { r with valid := r.valid && validB (r.ep r.at_) (H.ss r.s).v H.c.epochs }
        (if q.last then (q.next 8).judge else q.next 8, H.epoch r.who r.s)) := by simp [RP.go, p3]
      rw [hgo] at hk
      have w1' : (1 : Int) ≠ 0 := by decide
      have tail : ∀ (T5 : Tags) (h5 : Heap) (b : Bool), b = (r.valid && validB (r.ep r.at_) (H.ss r.s).v H.c.epochs) → Only (two (pre gh) (pre g)) T h T5 h5 → HallR T5 h5 gh q (H.epoch r.who r.s) → RPR T5 h5 g p { r with valid := b } → ∀ (B : Heap → Prop) (K0 : Value → Heap → Prop),
          (∀ h6, K0 (.bool true) h6 = callM P fn_read_Proc_judge #[ptr p] h6 fun _ h7 => K (.tuple #[]) h7) → (∀ h6, K0 (.bool false) h6 = K (.tuple #[]) h6) → callM P fn_read_Proc_next #[ptr p, .int .i64 8] h5 K0 := by
        intro T5 h5 b hb o5 y5 x5 B K0 hk1 hk2
        refine rnext_ok 8 o5.wf gg x5 rg.at_ fun h6 o6 x6 => ?_
        have y6 := y5.up o6 d2 gg.nil
        simp only [← hb] at hk
        cases hl : RP.last { r with valid := b } with
        | false =>
          rw [hk2]
          simp only [hl] at hk
          exact hk T5 h6 (o5.up o6 two_r) y6 x6
        | true =>
          rw [hk1]
          simp only [hl, if_true] at hk
          have hq : (RP.next { r with valid := b } 8).vals = [] ∧ (RP.next { r with valid := b } 8).users = r.users ∧ (RP.next { r with valid := b } 8).of = r.of ∧ (RP.next { r with valid := b } 8).seen = r.seen ∧ (RP.next { r with valid := b } 8).k = r.k ∧ (RP.next { r with valid := b } 8).tries = r.tries ∧ (RP.next { r with valid := b } 8).at_ < 1000000 := by
            have := rg.at_
            have := rg.k8
            unfold RP.next RP.k at *
            split
            · exact ⟨hvals, rfl, rfl, rfl, rfl, rfl, by simp at *; omega⟩
            · exact ⟨hvals, rfl, rfl, rfl, rfl, rfl, by simp⟩
          obtain ⟨k1, k2, k3, k4, k5, k6, k7⟩ := hq
          refine rjudge_ok o6.wf gg x6 ⟨by rw [k2]; exact rg.us, by rw [k3]; exact rg.of, by rw [k5]; exact rg.k8, by rw [k6]; exact rg.tr, k7, by rw [k4]; exact rg.sn⟩ k1 fun T7 h7 o7 x7 => ?_
          exact hk T7 h7 ((o5.up o6 two_r).up o7 two_r) (y6.up o7 d2 gg.nil) x7
      unfold d_read_Proc_Step_21
      cases hvd : r.valid with
      | false =>
        simp -implicitDefEqProofs [ld_at cp3, cel_of cp3, stm_at cp3, stm_upd, ld_same, cel_same, over, hvd]
        refine x3.fin o3.wf (v := .tuple #[]) (r' := { r with valid := false }) (K := fun _ h' => callM P fn_read_Proc_next #[ptr p, .int .i64 8] h' _) (fun h5 o5 x5 => ?_) (by simp [rpC, p3]) rfl rfl rfl rfl x3.vs x3.vn
        refine tail T3 h5 false (by simp [hvd]) (oo.up o5 two_r) (y3.up o5 d2 gg.nil) x5 (fun _ => True) _ (fun h6 => ?_) (fun h6 => ?_)
        · unfold d_read_Proc_Step_22 d_read_Proc_Step_23 d_read_Proc_Step_24
          simp -implicitDefEqProofs
        · unfold d_read_Proc_Step_22 d_read_Proc_Step_25
          simp -implicitDefEqProofs
      | true =>
        obtain ⟨eb, q1, q2, q3⟩ := row1_at (F := fun i => .int .u64 (r.ep i)) (k := .i64) x3.ep.1 hat
        simp -implicitDefEqProofs [ld_at cp3, cel_of cp3, stm_at cp3, stm_upd, ld_same, cel_same, over, hvd, q2, q3]
        refine config_ok y3 fun h5 e5 => ?_
        have o5 : Only non T3 h3 T3 h5 := Only.of_ext o3.wf e5
        have x5 := x3.kp o5.k (Off.non _) (not_non _)
        have y5 := y3.up o5 (Off.non _) (not_non _)
        have cp5 := x5.cp
        have q3' := cel_ext e5 q3
        have hep : (H.epoch r.who r.s).c = H.c := rfl
        simp only [hep, cfgC]
        simp -implicitDefEqProofs [ld_at cp5, cel_of cp5, stm_at cp5, stm_upd, ld_same, cel_same, over, q3', fdV]
        refine valid_ok _ _ _ (hep' r.at_ hat) hg.cw.u1 ?_
        simp -implicitDefEqProofs [ld_at cp5, cel_of cp5, stm_at cp5, stm_upd, ld_same, cel_same, over, hvd]
        refine x5.fin o5.wf (v := .tuple #[]) (r' := { r with valid := validB (r.ep r.at_) (H.ss r.s).v H.c.epochs }) (K := fun _ h' => callM P fn_read_Proc_next #[ptr p, .int .i64 8] h' _) (fun h6 o6 x6 => ?_) (by simp [rpC, p3]) rfl rfl rfl rfl x5.vs x5.vn
        refine tail T3 h6 _ (by simp [hvd]) ((oo.up o5 non_up).up o6 two_r) (y5.up o6 d2 gg.nil) x6 (fun _ => True) _ (fun h6 => ?_) (fun h6 => ?_)
        · unfold d_read_Proc_Step_22 d_read_Proc_Step_23 d_read_Proc_Step_24
          simp -implicitDefEqProofs
        · unfold d_read_Proc_Step_22 d_read_Proc_Step_25
          simp -implicitDefEqProofs
    by_cases p4 : r.ph = 4
    · unfold d_read_Proc_Step_26 d_read_Proc_Step_27
      simp -implicitDefEqProofs [p3, p4, ld_at cp, cel_of cp, stm_at cp, stm_upd, ld_same, cel_same, over]
      refine lock_ok r.who w1 ggh y1 hsn hg.n8 hg.ac' ⟨rs.wr.1, by have := rs.wr.2; omega⟩ fun T3 h3 o3 y3 => ?_
      have x3 := x2.kp o3.k d1 ggh.nil
      unfold d_read_Proc_Step_28
      simp -implicitDefEqProofs
      refine rnext_ok 5 o3.wf gg ⟨uv, sv, ev, mr, vv, x3⟩ rg.at_ fun h4 o4 x4 => ?_
      have hgo : r.go H n = (r.next 5, H.lock r.who r.s) := by simp [RP.go, p4]
      rw [hgo] at hk
      unfold d_read_Proc_Step_29
      simp -implicitDefEqProofs
      exact hk T3 h4 (((o1.mono non_up).up o3 two_l).up o4 two_r) (y3.up o4 d2 gg.nil) x4
    unfold d_read_Proc_Step_26 d_read_Proc_Step_30
    simp -implicitDefEqProofs [p3, p4]
    by_cases p6 : r.ph = 6
    · unfold d_read_Proc_Step_31
      simp -implicitDefEqProofs [p6, ld_at cp, cel_of cp, stm_at cp, stm_upd, ld_same, cel_same, over]
      refine read_ok r.who w1 ggh y1 hsn hg.n8 hg.ac' fun T3 h3 a c o3 y3 bk => ?_
      have x3 := x2.kp o3.k d1 ggh.nil
      have cp3 := x3.cp
      unfold d_read_Proc_Step_32
      simp -implicitDefEqProofs [ld_at cp3, cel_of cp3, stm_at cp3, stm_upd, ld_same, cel_same, over]
      refine x3.up o3.wf (s := r.s) bk fun h4 o4 x4 => ?_
      have y4 := y3.up o4 (fun t ht e => d2 t ht (e ▸ pre_app _ _)) (by simp)
      have oo : Only (two (pre gh) (pre g)) T h T3 h4 := (((o1.mono non_up).up o3 two_l).up o4 fun t e => two_r _ (e ▸ pre_app _ _))
      have hgo : r.go H n = (RP.next { r with seen := seenset r.seen r.s (H.ss r.s).book } 7, H.read r.who r.s) := by simp [RP.go, p6]
      rw [hgo] at hk
      refine rnext_ok 7 o4.wf gg ⟨uv, sv, ev, mr, vv, x4⟩ rg.at_ fun h5 o5 x5 => ?_
      unfold d_read_Proc_Step_33
      simp -implicitDefEqProofs
      exact hk T3 h5 (oo.up o5 two_r) (y4.up o5 d2 gg.nil) x5
    have p7 : r.ph = 7 := by have := rs.ph; omega
    unfold d_read_Proc_Step_34 d_read_Proc_Step_35
    simp -implicitDefEqProofs [p6, p7, ld_at cp, cel_of cp, stm_at cp, stm_upd, ld_same, cel_same, over]
    have hwh := hg.wh r.s hsn
    refine unlock_ok r.who w1 ggh y1 hsn hg.n8 hg.ac' (by omega) fun T3 h3 o3 y3 => ?_
    have x3 := x2.kp o3.k d1 ggh.nil
    have hgo : r.go H n = (if r.last then (r.next 8).answer else r.next 8, H.unlock r.who r.s) := by simp [RP.go, p7]
    rw [hgo] at hk
    unfold d_read_Proc_Step_36
    simp -implicitDefEqProofs
    refine rnext_ok 8 o3.wf gg ⟨uv, sv, ev, mr, vv, x3⟩ rg.at_ fun h4 o4 x4 => ?_
    have y4 := y3.up o4 d2 gg.nil
    have oo : Only (two (pre gh) (pre g)) T h T3 h4 := ((o1.mono non_up).up o3 two_l).up o4 two_r
    unfold d_read_Proc_Step_37
    cases hl : r.last with
    | false =>
      unfold d_read_Proc_Step_40
      simp only [hl] at hk
      simp -implicitDefEqProofs
      exact hk T3 h4 oo y4 x4
    | true =>
      simp only [hl, if_true] at hk
      unfold d_read_Proc_Step_38
      simp -implicitDefEqProofs
      have hq : (r.next 8).vals = [] ∧ (r.next 8).users = r.users ∧ (r.next 8).of = r.of ∧ (r.next 8).seen = r.seen := by unfold RP.next; split <;> exact ⟨hvals, rfl, rfl, rfl⟩
      refine ranswer_ok o4.wf gg x4 hq.1 (by rw [hq.2.1]; exact rg.us) (by rw [hq.2.2.1]; exact rg.of) (by rw [hq.2.2.2]; exact rg.sn) fun T5 h5 o5 x5 => ?_
      unfold d_read_Proc_Step_39
      simp -implicitDefEqProofs
      exact hk T5 h5 (oo.up o5 two_r) (y4.up o5 d2 gg.nil) x5
end Go.Proofs.Ytcnphhhcknhhaaa

namespace Go.Proofs.Ytcnphhhcknhhaaa
open Go Go.Den Go.MapKept
set_option linter.unusedSimpArgs false
set_option linter.unusedVariables false
set_option maxRecDepth 20000
theorem bdProc (a b c d : Int) (s : Option Addr) (n m : Nat) : bdV (binf P ty_read_Proc) [(0, .int .i64 a), (1, .slice s n m), (2, .int .i64 b), (13, .int .i64 c), (6, .int .i64 d)] =
  some (.agg #[.int .i64 a, .slice s n m, .int .i64 b, .slice none 0 0, .int .i64 0, .int .i64 0, .int .i64 d, .slice none 0 0, .bool false, .bool false, .map none, .int .u64 0, .int .u64 0, .bool false, .int .i64 0, .int .i64 c, .int .i64 0, .slice none 0 0, .slice none 0 0, .bool false]) := by kernel_rfl
theorem Sl.isSl {α : Type} {sz : Nat} {R : Heap → List Value → α → Prop} {h : Heap} {v : Value} {xs : List α} (x : Sl sz R h v xs) : ∃ s n m, v = .slice s n m := by
  rcases x with ⟨_, a, c, rfl⟩ | ⟨b, o, cap, rfl, _⟩ <;> exact ⟨_, _, _, rfl⟩
theorem usersOf_le (x : OpD) (h : badB x = false) : (usersOf x).length ≤ 8 := by
  unfold badB at h
  unfold usersOf
  split
  · simp -implicitDefEqProofs
  · split
    · rename_i h4 h5
      simp -implicitDefEqProofs [h5] at h
      omega
    · simp -implicitDefEqProofs
theorem rnew_ok (who : Int) (x : OpD) (xw : OpW x) {T : Tags} {h : Heap} {g gh : Tag} {q : Nat} {H : Hall} (w : Wf T h) (gg : Gd g) (ggh : Gd gh) (d2 : Off (pre g) gh) (y : HallR T h gh q H) {v : Value} (hv : Sl 1 StrR (fz T h) v x.users) (hl : x.users.length < 1000000) (c8 : H.c.stripes ≤ 8) {K : Value → Heap → Prop}
    (hk : ∀ T' h' p, Only (pre g) T h T' h' → RPR T' h' g p (rp0 H who x) → K (ptr p) h') : callM P fn_read_New #[ptr q, .int .i64 who, .agg (opC x v).toArray] h K := by
  apply e_read_New
  unfold d_read_New
  refine nw_agg fun v1 h1 n1 e1 c1 => ?_
  simp only [ld_at c1, opC]
  have oC : Value.agg #[.int .i64 x.kind, .string x.user, .int .i64 x.id, .int .i64 x.status, .int .i64 x.prio, .int .u64 x.ttl, v] = .agg (opC x v).toArray := rfl
  simp -implicitDefEqProofs [oC]
  have o1 : Only non T h T h1 := Only.of_ext w e1
  have eF := fz_ext T h
  refine users_ok x xw o1.wf (hv.ext (@StrR.ext) (eF.trans e1)) hl fun uv h2 e2 us => ?_
  have o2 : Only non T h1 T h2 := Only.of_ext o1.wf e2
  have y2 := (y.up o1 (Off.non _) (not_non _)).up o2 (Off.non _) (not_non _)
  unfold d_read_New_1
  refine config_ok y2 fun h3 e3 => ?_
  have o3 : Only non T h2 T h3 := Only.of_ext o2.wf e3
  have y3 := y2.up o3 (Off.non _) (not_non _)
  unfold d_read_New_2
  simp -implicitDefEqProofs [fdV, cfgC]
  refine config_ok y3 fun h4 e4 => ?_
  have o4 : Only non T h3 T h4 := Only.of_ext o3.wf e4
  have y4 := y3.up o4 (Off.non _) (not_non _)
  have us := us.ext (@StrR.ext) (fz_of_ext (e3.trans e4))
  unfold d_read_New_3
  obtain ⟨sa, sn, sm, rfl⟩ := Sl.isSl us
  simp -implicitDefEqProofs [fdV, cfgC, bdProc]
  refine nw_tag o4.wf (g ++ [0]) fun p T5 h5 n5 o5 t5 c5 => ?_
  have cop := o5.k.at (t := []) (e4 _ _ (e3 _ _ (e2 _ _ c1))) (w v1 n1) (not_non _)
  have us := us.ext (@StrR.ext) (o5.ext (not_non _))
  have y5 := y4.up o5 (Off.non _) (not_non _)
  rw [seqM_eq]
  unfold d_read_New_4
  have cc := cop.1
  simp only [ld_at cc, opC]
  simp -implicitDefEqProofs [oC]
  have oh5 : Only non T h T5 h5 := (((o1.trans o2).trans o3).trans o4).trans o5
  refine modBad_ok x xw (hv.ext (@StrR.ext) ((oh5.ext (not_non _)).trans (fz_ext _ _))) hl fun h6 e6 => ?_
  have o6 : Only non T5 h5 T5 h6 := Only.of_ext o5.wf e6
  have c6 := e6 _ _ c5
  have y6 := y5.up o6 (Off.non _) (not_non _)
  have us := us.ext (@StrR.ext) (fz_of_ext e6)
  have tail : ∀ (h7 : Heap) (uv : Value) (us : List ByteArray), Only (pre g) T h T5 h7 → h7 p = some (.cells #[.int .i64 who, uv, .int .i64 H.c.stripes, .slice none 0 0, .int .i64 0, .int .i64 0, .int .i64 H.c.retries, .slice none 0 0, .bool false, .bool false, .map none, .int .u64 0, .int .u64 0, .bool false, .int .i64 0, .int .i64 (-1), .int .i64 0, .slice none 0 0, .slice none 0 0, .bool false] ty_read_Proc (0, 0)) →
      Sl 1 StrR (fz T5 h7) uv us → us = (if badB x then [] else usersOf x) → ∀ s : Env, s 0 = ptr q → s 7 = ptr p → d_read_New_8 s h7 K [] := by
    intro h7 uv us o7 c7 su hus s s0 s7
    have y7 := y.up o7 d2 gg.nil
    unfold d_read_New_8
    simp -implicitDefEqProofs [s0, s7, ld_at c7, cel_of c7, stm_at c7, stm_upd, ld_same, cel_same, over]
    refine config_ok y7 fun h8 e8 => ?_
    have o8 : Only non T5 h7 T5 h8 := Only.of_ext o7.wf e8
    have c8' := e8 _ _ c7
    have su := su.ext (@StrR.ext) (fz_of_ext e8)
    have hle : us.length ≤ 8 := by
      rw [hus]
      cases hb : badB x with
      | true => simp
      | false => simpa using usersOf_le x hb
    unfold d_read_New_9
    simp -implicitDefEqProofs [ld_at c8', cel_of c8', stm_at c8', stm_upd, ld_same, cel_same, over, fdV, cfgC]
    refine stripes_ok us _ c8 o8.wf (su.ext (@StrR.ext) (fz_ext _ _)) (by omega) fun sv h9 e9 ss => ?_
    have o9 : Only non T5 h8 T5 h9 := Only.of_ext o8.wf e9
    have c9 := e9 _ _ c8'
    have su := su.ext (@StrR.ext) (fz_of_ext e9)
    have os := ss.one
    unfold d_read_New_10
    simp -implicitDefEqProofs [s7, ld_at c9, cel_of c9, stm_at c9, stm_upd, ld_same, cel_same, over, os.1, os.2]
    have o10 := fun o' => Only.upd (U := pre g) (o' := o') o9.wf c9 (t5 ▸ pre_app _ _)
    have e10 := fun o' => (o10 o').ext gg.nil
    have hss : (stripesOf us H.c.stripes).length ≤ 8 := by unfold stripesOf; exact ssTo_le us H.c.stripes 8
    refine rbegin_ok (r := ⟨who, us, H.c.stripes, stripesOf us H.c.stripes, 0, 0, H.c.retries, fun _ => 0, false, false, fun _ => none, ⟨0, 0, false⟩, 0, -1, 0, []⟩) (o10 _).wf gg (upd_same' _ _ _) t5 (su.ext (@StrR.ext) (e10 _)) (ss.ext (@NatR.ext) (e10 _)) (.inl ⟨rfl, _, _, rfl⟩) (fun _ => rfl) hss fun T11 h11 o11 x11 => ?_
    unfold d_read_New_11
    simp -implicitDefEqProofs [s7]
    refine hk T11 h11 p ((((o7.up o8 non_up).up o9 non_up).trans (o10 _)).trans o11) ?_
    have : rp0 H who x = RP.begin ⟨who, us, H.c.stripes, stripesOf us H.c.stripes, 0, 0, H.c.retries, fun _ => 0, false, false, fun _ => none, ⟨0, 0, false⟩, 0, -1, 0, []⟩ := by rw [hus]; rfl
    rw [this]; exact x11
  have o06 : Only (pre g) T h T5 h6 := (oh5.mono non_up).up o6 non_up
  unfold d_read_New_5 d_read_New_6 d_read_New_7
  cases hb : badB x with
  | true =>
    simp -implicitDefEqProofs [ld_at c6, cel_of c6, stm_at c6, stm_upd, ld_same, cel_same, over]
    have o7 := fun o' => Only.upd (U := pre g) (o' := o') o6.wf c6 (t5 ▸ pre_app _ _)
    refine tail _ (.slice none 0 0) [] (o06.trans (o7 _)) (upd_same' _ _ _) (.inl ⟨rfl, _, _, rfl⟩) (by simp [hb]) _ (by simp) (by simp)
  | false =>
    simp -implicitDefEqProofs
    exact tail h6 _ _ o06 c6 us (by simp [hb]) _ (by simp) (by simp)
end Go.Proofs.Ytcnphhhcknhhaaa

namespace Go.Proofs.Ytcnphhhcknhhaaa
open Go Go.Den Go.MapKept
set_option linter.unusedSimpArgs false
set_option linter.unusedVariables false
set_option maxRecDepth 20000
def small : Cfg := ⟨3, 2, 16, 4, 1, 100, 0⟩
theorem bdSmall : bdV (binf P ty_api_Config) [(0, .int .i64 3), (1, .int .i64 2), (2, .int .i64 16), (3, .int .i64 4), (4, .int .i64 1), (5, .int .u64 100)] = some (.agg (cfgC small).toArray) := by kernel_rfl
theorem smallW : CfgW small := by constructor <;> simp [small, I64, U64]
theorem small_ok {h : Heap} {K : Value → Heap → Prop} (hk : ∀ h', Ext h h' → K (.agg (cfgC small).toArray) h') : callM P fn_doormanlaw10_Small #[] h K := by
  apply e_doormanlaw10_Small
  unfold d_doormanlaw10_Small
  rw [zcCfg, bdSmall]
  simp only [nwM_s]
  intro v1 n1
  simp -implicitDefEqProofs [stm_upd, ld_same, cel_same, over, cfgC]
  exact hk _ (Ext.upd n1 _)
def rdOp (x : OpD) : OpD := { x with kind := 4 + x.kind % 2 }
theorem zcOp : zc P ty_api_Op = some #[.int .i64 0, .string ⟨#[]⟩, .int .i64 0, .int .i64 0, .int .i64 0, .int .u64 0, .slice none 0 0] := by kernel_rfl
theorem reading_ok (x : OpD) {h : Heap} {v : Value} (ho : One v) {K : Value → Heap → Prop} (hk : ∀ h', Ext h h' → K (.agg (opC (rdOp x) v).toArray) h') : callM P fn_doormanlaw16_reading #[.agg (opC x v).toArray] h K := by
  apply e_doormanlaw16_reading
  unfold d_doormanlaw16_reading
  refine nw_agg fun v1 h1 n1 e1 c1 => ?_
  rw [zcOp]
  refine nw_intro fun v3 h3 n3 e3 c3 => ?_
  have ne := ne_fresh c1 n3
  have c1 := e3 _ _ c1
  simp only [opC] at c1
  have m1 := tmod_rng x.kind (show (0 : Int) < 2 by omega)
  have m2 := Int.mul_tdiv_add_tmod x.kind 2
  have e2 : (x.kind.tmod 2 + 2).tmod 2 = x.kind % 2 := by rw [tmod_pos (by omega)]; omega
  have w1 : IntKind.i64.wrap (x.kind.tmod 2 + 2) = x.kind.tmod 2 + 2 := wrap64_id (by omega) (by omega)
  have w2 : IntKind.i64.wrap (4 + x.kind % 2) = 4 + x.kind % 2 := wrap64_id (by omega) (by omega)
  simp -implicitDefEqProofs [ld_at c1, cel_of c1, stm_at c1, ld_at c3, cel_of c3, stm_at c3, stm_skip ne, stm_skip (Ne.symm ne), ld_skip ne, ld_skip (Ne.symm ne), cel_skip ne, cel_skip (Ne.symm ne), stm_upd, ld_same, cel_same, over, w1, e2, w2, ho.1, ho.2]
  refine kv (hk _ ?_) rfl
  exact ext_upd n1 (ext_upd (fresh_of e1 n3) (e1.trans e3))
theorem cnt_set (p : Nat → Bool) (q : Nat) (hp : p q = false) : ∀ n, ((List.range n).filter fun s => p s || decide (q = s)).length = ((List.range n).filter p).length + if q < n then 1 else 0
  | 0 => by simp
  | n + 1 => by
    rw [List.range_succ, List.filter_append, List.filter_append, List.length_append, List.length_append, cnt_set p q hp n]
    by_cases hqn : q = n
    · subst hqn; simp [List.filter_cons, hp]
    · by_cases hq : q < n
      · have : q < n + 1 := by omega
        simp -implicitDefEqProofs [List.filter_cons, hqn, hq, this]; split <;> simp <;> omega
      · have : ¬ q < n + 1 := by omega
        simp -implicitDefEqProofs [List.filter_cons, hqn, hq, this]
def LStI (users : List ByteArray) (n : Int) (p : Nat) (T : Tags) (h : Heap) (v7 v8 : Value) (h' : Heap) : Prop :=
  ∃ i : Nat, Ext h h' ∧ i ≤ users.length ∧ v8 = .int .i64 i ∧ v7 = .int .i64 ((List.range 8).filter (inS (users.take i) n)).length ∧ h' p = some (.cells (inC (users.take i) n).toArray ty_8_bool (0, 0))
theorem lstripes_ok (x : OpD) (xw : OpW x) {T : Tags} {h : Heap} {g : Tag} {q : Nat} {H : Hall} (w : Wf T h) (y : HallR T h g q H) (hc : 1 ≤ H.c.stripes ∧ H.c.stripes ≤ 8) {v : Value} (hv : Sl 1 StrR h v x.users) (hl : x.users.length < 1000000) {K : Value → Heap → Prop}
    (hk : ∀ h', Ext h h' → K (.int .i64 (stripesOf (usersOf x) H.c.stripes).length) h') : callM P fn_doormanlaw16_stripes #[ptr q, .agg (opC x v).toArray] h K := by
  apply e_doormanlaw16_stripes
  unfold d_doormanlaw16_stripes
  refine nw_agg fun v1 h1 n1 e1 c1 => ?_
  have oC : ∀ v, Value.agg #[.int .i64 x.kind, .string x.user, .int .i64 x.id, .int .i64 x.status, .int .i64 x.prio, .int .u64 x.ttl, v] = .agg (opC x v).toArray := fun v => rfl
  simp only [ld_at c1, opC]
  simp -implicitDefEqProofs [oC]
  refine users_ok x xw (wf_nil h1) (hv.ext (@StrR.ext) e1) hl fun uv h2 e2 us => ?_
  rw [fz_nil] at us
  unfold d_doormanlaw16_stripes_1
  rw [zc8]
  refine nw_intro fun p h3 n3 e3 c3 => ?_
  have e0 := (e1.trans e2).trans e3
  have np := fresh_of (e1.trans e2) n3
  rw [seqM_eq]
  unfold d_doormanlaw16_stripes_2
  have y3 := y.up (Only.of_ext (U := non) w e0) (Off.non _) (not_non _)
  have ul : (usersOf x).length < 1000000 := by unfold usersOf; split; simp; split; exact hl; simp
  have base : inC ((usersOf x).take 0) H.c.stripes = [.bool false, .bool false, .bool false, .bool false, .bool false, .bool false, .bool false, .bool false] := by simp [inC, inS, List.range_succ]
  have cnt0 : ((List.range 8).filter (inS ((usersOf x).take 0) H.c.stripes)).length = 0 := by simp [inS]
  refine loop_on [0, 5, 6] (fun s h' => LStI (usersOf x) H.c.stripes p T h2 (s 7) (s 8) h') (fun s _ => ((usersOf x).length - num (s 8)).toNat)
    ⟨0, e3, by omega, rfl, by rw [cnt0]; rfl, by rw [base]; exact c3⟩ ?_
  rintro s h4 hf ⟨i, e4, hi, s8, s7, hp⟩
  have s0 : s 0 = ptr q := by simpa using hf 0 (by simp)
  have s5 : s 5 = uv := by simpa using hf 5 (by simp)
  have s6 : s 6 = ptr p := by simpa using hf 6 (by simp)
  have hlen := us.len
  unfold d_doormanlaw16_stripes_3
  simp only [s5, s8, hlen, bin_lss, ov_s, cd_b]
  refine ⟨fun hc2 => ?_, fun hc2 => ?_⟩
  rotate_left
  · have : i = (usersOf x).length := by have : ¬ ((i : Int) < (usersOf x).length) := by simpa using hc2
                                        omega
    subst this
    rw [List.take_length] at s7
    simp -implicitDefEqProofs [s7]
    exact hk h4 ((e1.trans e2).trans e4)
  have hlt : i < (usersOf x).length := by have : ((i : Int) < (usersOf x).length) := by simpa using hc2
                                          omega
  obtain ⟨b, o, i1, i2⟩ := str_at us (k := .i64) hlt
  have hsz := str_sizes us _ (List.getElem_mem hlt)
  have hw : IntKind.i64.wrap ((i : Int) + 1) = i + 1 := wrap64_id (by omega) (by omega)
  have y4 := y.up (Only.of_ext (U := non) w ((e1.trans e2).trans e4)) (Off.non _) (not_non _)
  unfold d_doormanlaw16_stripes_4
  rw [seqM_eq]
  unfold d_doormanlaw16_stripes_5
  simp only [s5, s8, s0, i1, ov_s, ldV_c, i2 _ e4]
  refine hstripe_ok _ hsz y4 hc.2 ?_
  have hrng := stripeOf_rng (usersOf x)[i] hc.1
  obtain ⟨k, hk'⟩ : ∃ k : Nat, stripeOf (usersOf x)[i] H.c.stripes = k := ⟨(stripeOf (usersOf x)[i] H.c.stripes).toNat, by omega⟩
  have hk8 : k < 8 := by omega
  have hm : (k : Int).tmod 8 = k := by rw [tmod_pos (by omega)]; omega
  have hcel : cel h4 p k = some (.bool (inS ((usersOf x).take i) H.c.stripes k)) := by rw [cel_of hp]; simp [inC, hk8]
  have hdec : ∀ s : Nat, decide ((k : Int) = s) = decide (k = s) := fun s => decide_eq_decide.2 (by omega)
  have hcells : inC ((usersOf x).take (i + 1)) H.c.stripes = (List.range 8).map fun s => .bool (inS ((usersOf x).take i) H.c.stripes s || decide (k = s)) := by
    unfold inC
    apply List.map_congr_left
    intro s _
    rw [inS_s hlt, hk', hdec]
  have hcntf : ∀ s, inS ((usersOf x).take (i + 1)) H.c.stripes s = (inS ((usersOf x).take i) H.c.stripes s || decide (k = s)) := fun s => by rw [inS_s hlt, hk', hdec]
  unfold d_doormanlaw16_stripes_6
  rw [hk']
  simp only [bin_rem _ _ _ _ _ (show (8 : Int) ≠ 0 by decide), hm, ov_s, s6, ia_arr hk8, Nat.zero_add, ldV_c, hcel, unV_n, cd_b]
  cases hin : inS ((usersOf x).take i) H.c.stripes k with
  | true =>
    refine ⟨fun h => by simp at h, fun _ => ?_⟩
    unfold d_doormanlaw16_stripes_8
    simp -implicitDefEqProofs [s8, s7, s0, s5, s6, hw]
    have hsame : ∀ s, inS ((usersOf x).take (i + 1)) H.c.stripes s = inS ((usersOf x).take i) H.c.stripes s := fun s => by
      rw [hcntf]
      by_cases e : k = s
      · subst e; simp [hin]
      · simp -implicitDefEqProofs [e]
    refine ⟨⟨i + 1, e4, by omega, by simp, ?_, ?_⟩, by omega⟩
    · rw [show inS ((usersOf x).take (i + 1)) H.c.stripes = inS ((usersOf x).take i) H.c.stripes from funext hsame]
    · rw [hp]; unfold inC; rw [show inS ((usersOf x).take (i + 1)) H.c.stripes = inS ((usersOf x).take i) H.c.stripes from funext hsame]
  | false =>
    refine ⟨fun _ => ?_, fun h => by simp at h⟩
    unfold d_doormanlaw16_stripes_7
    have hcc := cnt_set (inS ((usersOf x).take i) H.c.stripes) k hin 8
    have hcle : ((List.range 8).filter (inS ((usersOf x).take i) H.c.stripes)).length ≤ 8 := ssTo_le _ _ 8
    have hw7 : IntKind.i64.wrap ((((List.range 8).filter (inS ((usersOf x).take i) H.c.stripes)).length : Int) + 1) = (((List.range 8).filter (inS ((usersOf x).take i) H.c.stripes)).length : Int) + 1 := wrap64_id (by omega) (by omega)
    simp only [bin_rem _ _ _ _ _ (show (8 : Int) ≠ 0 by decide), hm, ov_s, s6, ia_arr hk8, Nat.zero_add]
    rw [stm_at hp (by simp) (by simp [inC_len]; omega) (by simp)]
    simp only [s7, bin_add, ov_s, hw7]
    have hov : over (inC ((usersOf x).take i) H.c.stripes).toArray k [.bool true] = (inC ((usersOf x).take (i + 1)) H.c.stripes).toArray := by
      rw [hcells]
      unfold inC
      rw [over_map1 hk8]
      congr 1
      apply List.map_congr_left
      intro s _
      by_cases e : s = k
      · subst e; simp
      · have : ¬ k = s := fun h => e h.symm
        simp -implicitDefEqProofs [e, this]
    have hcnt2 : ((List.range 8).filter (inS ((usersOf x).take (i + 1)) H.c.stripes)).length = ((List.range 8).filter (inS ((usersOf x).take i) H.c.stripes)).length + 1 := by
      rw [show inS ((usersOf x).take (i + 1)) H.c.stripes = (fun s => inS ((usersOf x).take i) H.c.stripes s || decide (k = s)) from funext hcntf, hcc, if_pos hk8]
    generalize ((List.range 8).filter (inS ((usersOf x).take i) H.c.stripes)).length = N1 at *
    simp -implicitDefEqProofs [s8, s0, s5, s6, hw]
    refine ⟨⟨i + 1, ext_upd n3 e4, by omega, by simp, by rw [hcnt2]; simp, ?_⟩, by omega⟩
    rw [upd_same']
    simp only [← hov]
end Go.Proofs.Ytcnphhhcknhhaaa

namespace Go.Proofs.Ytcnphhhcknhhaaa
open Go Go.Den Go.MapKept
set_option linter.unusedSimpArgs false
set_option linter.unusedVariables false
set_option maxRecDepth 20000
def RdI (T0 : Tags) (h0 : Heap) (hp pp : Nat) (J : Nat → RP → Hall → Prop) (a0 : Nat) (v : Value) (h' : Heap) : Prop :=
  ∃ (T' : Tags) (n : Nat) (r : RP) (H : Hall), Only (two (pre [1]) (pre [2])) T0 h0 T' h' ∧ HallR T' h' [1] hp H ∧ RPR T' h' [2] pp r ∧ RK H.n r ∧ HG H ∧ H.acts.length ≤ n + a0 ∧ J n r H ∧ v = .int .i64 n ∧ n ≤ 1000
theorem g1 : Gd [1] := ⟨0, [], rfl⟩
theorem g2 : Gd [2] := ⟨1, [], rfl⟩
theorem d12 : Off (pre [1]) [2] := off_pre (g := []) (x := [1]) (y := [2]) (by simp) (by simp)
theorem d21 : Off (pre [2]) [1] := off_pre (g := []) (x := [2]) (y := [1]) (by simp) (by simp)
theorem two12 : ¬ two (pre [1]) (pre [2]) [] := by rintro (h | h) <;> simp [pre] at h
theorem rd_step {T0 : Tags} {h0 : Heap} {hp pp : Nat} {J : Nat → RP → Hall → Prop} {a0 n : Nat} {T' : Tags} {h' : Heap} {r : RP} {H : Hall} (ha : a0 ≤ 1000) (hn : n < 1000) (o : Only (two (pre [1]) (pre [2])) T0 h0 T' h') (y : HallR T' h' [1] hp H) (x : RPR T' h' [2] pp r) (rk : RK H.n r) (hg : HG H) (hl : H.acts.length ≤ n + a0)
    (hj : J (n + 1) (r.step H n).1 (r.step H n).2) {K : Value → Heap → Prop} (hk : ∀ h'', RdI T0 h0 hp pp J a0 (.int .i64 (n + 1 : Nat)) h'' → K (.tuple #[]) h'') : callM P fn_read_Proc_Step #[ptr pp, ptr hp, .int .i64 n] h' K := by
  obtain ⟨k1, k2, k3, k4, k5⟩ := rk.step hg n (by omega)
  refine rstep_ok n o.wf g2 g1 d12 d21 x y rk.rg hg rk.rs fun T2 h2 o2 y2 x2 => ?_
  exact hk h2 ⟨T2, n + 1, _, _, o.trans o2, y2, x2, by rw [k3]; exact k1, k2, by omega, hj, rfl, by omega⟩
theorem bdOpAnn : bdV (binf P ty_api_Op) [(0, .int .i64 4), (1, .string ⟨#[97, 110, 110]⟩)] = some (.agg (opC ⟨4, ⟨#[97, 110, 110]⟩, 0, 0, 0, 0, []⟩ (.slice none 0 0)).toArray) := by kernel_rfl
def annOp : OpD := ⟨4, ⟨#[97, 110, 110]⟩, 0, 0, 0, 0, []⟩
set_option maxHeartbeats 1000000 in
theorem awake_ok {h : Heap} {K : Value → Heap → Prop} (hk : ∀ h', Ext h h' → K (.bool true) h') : callM P fn_doormanlaw16_awake #[] h K := by
  apply e_doormanlaw16_awake
  unfold d_doormanlaw16_awake
  refine small_ok fun h1 e1 => ?_
  unfold d_doormanlaw16_awake_1
  have w1 := wf_nil h1
  refine hallNew_ok small smallW w1 g1 (fun hr T2 h2 q o2 y2 => ?_) (fun hr => by simp [rightB, small] at hr)
  have hg0 := HG.hall0 smallW hr
  unfold d_doormanlaw16_awake_2
  have enil : binV .eql 4 true (ptr q) (.pointer none) = some (.bool false) := rfl
  simp -implicitDefEqProofs [enil]
  unfold d_doormanlaw16_awake_3
  rw [bdOpAnn]
  simp only [ov_s]
  have hb : badB annOp = false := by decide
  refine rnew_ok 0 annOp ⟨by simp [annOp, I64], by simp [annOp, I64], by simp [annOp, I64], by simp [annOp, I64], by simp [annOp, U64], by simp [annOp, maxLen]; decide⟩ o2.wf g2 g1 d21 y2 (.inl ⟨rfl, _, _, rfl⟩) (by simp [annOp]) hg0.c8 fun T3 h3 p o3 x3 => ?_
  have y3 := y2.up o3 d21 g2.nil
  unfold d_doormanlaw16_awake_4
  rw [seqM_eq]
  unfold d_doormanlaw16_awake_5
  have hss : (stripesOf (usersOf annOp) small.stripes).length = 1 := by decide +kernel
  have hus : (usersOf annOp).length = 1 := rfl
  have hst := Tr.start (c := small) (who := 0) hb (.inl rfl) (by decide) (by decide)
  have hnd := stripesOf_nodup (usersOf annOp) small.stripes
  have hrk : RK (hall0 small small.stripes.toNat).n (rp0 (hall0 small small.stripes.toNat) 0 annOp) := RK.rp0 hg0 rfl (by decide) (by decide) 0 (by omega) _ (fun _ => by simp [hus])
  generalize hssn : stripesOf (usersOf annOp) small.stripes = ss at *
  generalize husn : usersOf annOp = us at *
  have hN : Nof small ss = 4 := by unfold Nof; rw [hss]; decide
  refine loop_on [1, 3] (fun s h' => RdI T3 h3 q p (Tr small ss us) 0 (s 4) h') (fun s _ => (9 - num (s 4)).toNat) ⟨T3, 0, _, _, Only.refl o3.wf, y3, x3, hrk, hg0, by simp [hall0], hst, rfl, by omega⟩ ?_
  rintro s h4 hf ⟨T4, n, r, H, o4, y4, x4, rk, hg, hl, tr, s4, hn⟩
  have s1 : s 1 = ptr q := by simpa using hf 1 (by simp)
  have s3 : s 3 = ptr p := by simpa using hf 3 (by simp)
  have hp8 := tr.ph8 (by omega)
  rw [hN] at hp8
  have hn9 : (n : Int) < 9 := by omega
  have hw : IntKind.i64.wrap ((n : Int) + 1) = n + 1 := wrap64_id (by omega) (by omega)
  unfold d_doormanlaw16_awake_6
  simp -implicitDefEqProofs [s3, s4, hn9]
  refine rdone_ok x4 ?_
  by_cases h8 : r.ph = 8
  · have hn4 : n = 4 := hp8.1.1 h8
    subst hn4
    simp -implicitDefEqProofs [h8, s4, s3]
    unfold d_doormanlaw16_awake_9
    simp -implicitDefEqProofs [s3, s4]
    refine rplaced_ok x4 ?_
    cases tr with
    | a b w h ph at_ va sp => omega
    | b b w h ph at_ va sp => omega
    | c b w h ph at_ va sp => omega
    | d b w h ph at_ va sp tc lo => omega
    | f b w h he ph at_ => omega
    | g b h he ph at_ => omega
    | i b h he ph at_ tc lo pl => omega
    | j b h he ph at_ tc lo pl => omega
    | k h he ph pl er => omega
    | e h he ph pl er vl =>
      have hpl : r.placed = 2 := by rw [pl, hss]; rfl
      simp -implicitDefEqProofs [hpl]
      refine rreply_ok o4.wf g2 x4 fun h5 vv e5 hv _ => ?_
      have hv := hv h8
      have hlen := hv.len
      simp -implicitDefEqProofs [fdV, hlen, vl, hus]
      refine hk h5 ?_
      have o5 : Only non T4 h4 T4 h5 := Only.of_ext o4.wf e5
      have ea := o2.ext g1.nil
      have eb := o3.ext g2.nil
      have ec := o4.ext two12
      have ed := o5.ext (not_non _)
      rw [fz_nil] at ea
      exact e1.trans (((ea.trans eb).trans ec).trans (ed.trans (fz_ext _ _)))
  · have hn4 : n < 4 := by
      have := hp8.2
      have : ¬ n = 4 := fun e => h8 (hp8.1.2 e)
      omega
    simp -implicitDefEqProofs [h8]
    unfold d_doormanlaw16_awake_7
    rw [s1, s3, s4]
    refine rd_step (a0 := 0) (by omega) (by omega) o4 y4 x4 rk hg hl (tr.next (by omega) hnd (by rw [hN]; exact hn4) (by decide)) fun h5 hI => ?_
    unfold d_doormanlaw16_awake_8
    simp -implicitDefEqProofs [s4, hw, s1, s3]
    exact ⟨hI, by omega⟩
end Go.Proofs.Ytcnphhhcknhhaaa
