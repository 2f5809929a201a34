/- Contracts of the table and of what it is made of: cells, locks, feeds, hashes, books, presences. No condition beyond the hypotheses that each theorem states. -/
import Derived.Test.YtcnphhhcknhhaaaTxt
import Derived.Test.YtcnphhhcknhhaaaTab
set_option linter.unusedSimpArgs false
set_option linter.unusedVariables false
namespace Go.Proofs.Ytcnphhhcknhhaaa
open Go Go.Den Go.MapKept
set_option linter.unusedSimpArgs false
set_option linter.unusedVariables false
set_option maxRecDepth 20000
/-! Where the table lies: blocks, tagged. -/
def ringC (r : Ring) (lv : Value) : List Value := [.int .i64 r.room, lv, .bool r.lost]
def RingR (T : Tags) (h : Heap) (g : Tag) (p : Nat) (r : Ring) : Prop :=
  ∃ lv, h p = some (.cells (ringC r lv).toArray ty_ring_Ring_doorman_api_Event (0, 0)) ∧ T p = g ++ [0] ∧ Rw T h (g ++ [1]) 8 ty_api_Event lv r.l.length (r.l.flatMap evC)
theorem RingR.kp {U : Tag → Prop} {T T' : Tags} {h h' : Heap} {g : Tag} {p : Nat} {r : Ring} (x : RingR T h g p r) (k : Kp U T h T' h') (o : Off U g) : RingR T' h' g p r := by
  obtain ⟨lv, h1, h2, h3⟩ := x
  obtain ⟨h4, h5⟩ := k.at h1 h2 (o.at _)
  exact ⟨lv, h4, h5, h3.kp k (o.at _)⟩
def feedG (kv vv : Value) (q : Nat → Value) : Nat → Value
  | 0 => kv
  | 1 => vv
  | k + 2 => q k
def feedC (kv vv : Value) (q : Nat → Value) : List Value := (List.range 10).map (feedG kv vv q)
abbrev ptr (b : Nat) : Value := .pointer (some ⟨b, 0, none⟩)
def FeedR (T : Tags) (h : Heap) (g : Tag) (p : Nat) (f : Feed) : Prop :=
  ∃ (kv vv : Value) (q : Nat → Nat), h p = some (.cells (feedC kv vv fun j => ptr (q j)).toArray ty_feed_Feed (0, 0)) ∧ T p = g ++ [0] ∧ Sl 1 StrR (fz T h) kv (f.ws.map (·.1)) ∧ Sl 1 MaskR (fz T h) vv (f.ws.map (·.2)) ∧
    ∀ j, j < 8 → RingR T h (g ++ [1, j]) (q j) (f.qs j)
theorem FeedR.kp {U : Tag → Prop} {T T' : Tags} {h h' : Heap} {g : Tag} {p : Nat} {f : Feed} (x : FeedR T h g p f) (k : Kp U T h T' h') (o : Off U g) (n : ¬ U []) : FeedR T' h' g p f := by
  obtain ⟨kv, vv, q, h1, h2, h3, h4, h5⟩ := x
  obtain ⟨h6, h7⟩ := k.at h1 h2 (o.at _)
  exact ⟨kv, vv, q, h6, h7, h3.ext (@StrR.ext) (k.ext n), h4.ext (@MaskR.ext) (k.ext n), fun j hj => (h5 j hj).kp k (o.app _)⟩
/-- A stripe's values: what was published, the book, the feed. -/
structure SV where
  sk : Value
  sv : Value
  bk : Value
  bv : Value
  fp : Nat
def strC (x : Strp) (y : SV) : List Value := [.int .i64 x.who, .int .u64 x.v, .int .u64 x.bound, y.sk, y.sv, y.bk, y.bv, ptr y.fp]
def StrpR (T : Tags) (h : Heap) (g : Tag) (x : Strp) (y : SV) : Prop := BookR (fz T h) y.sk y.sv x.snap ∧ BookR (fz T h) y.bk y.bv x.book ∧ FeedR T h g y.fp x.feed
theorem StrpR.kp {U : Tag → Prop} {T T' : Tags} {h h' : Heap} {g : Tag} {x : Strp} {y : SV} (r : StrpR T h g x y) (k : Kp U T h T' h') (o : Off U g) (n : ¬ U []) : StrpR T' h' g x y :=
  ⟨r.1.ext (k.ext n), r.2.1.ext (k.ext n), r.2.2.kp k o n⟩
def hallC (H : Hall) (sv av : Value) : List Value := [.int .i64 H.c.stripes, .int .i64 H.c.sessions, .int .i64 H.c.queue, .int .i64 H.c.watches, .int .i64 H.c.retries, .int .u64 H.c.epochs, .int .u64 H.c.start,
  .int .u64 H.t.now, .int .u64 H.t.seq, .bool H.t.closed, sv, av]
structure HallX (T : Tags) (h : Heap) (g : Tag) (p : Nat) (H : Hall) (sv av : Value) (Y : Nat → SV) : Prop where
  hp : h p = some (.cells (hallC H sv av).toArray ty_hall_Hall (0, 0))
  tp : T p = g ++ [0]
  st : Rw T h (g ++ [1]) 8 ty_hall_stripe sv H.n (seqF H.n fun i => strC (H.ss i) (Y i))
  ac : Rw T h (g ++ [2]) 3 ty_api_Act av H.acts.length (H.acts.flatMap actC)
  sr : ∀ i, i < H.n → StrpR T h (g ++ [3, i]) (H.ss i) (Y i)
def HallR (T : Tags) (h : Heap) (g : Tag) (p : Nat) (H : Hall) : Prop := ∃ sv av Y, HallX T h g p H sv av Y
theorem HallR.kp {U : Tag → Prop} {T T' : Tags} {h h' : Heap} {g : Tag} {p : Nat} {H : Hall} (x : HallR T h g p H) (k : Kp U T h T' h') (o : Off U g) (n : ¬ U []) : HallR T' h' g p H := by
  obtain ⟨sv, av, Y, x⟩ := x
  obtain ⟨h1, h2⟩ := k.at x.hp x.tp (o.at _)
  exact ⟨sv, av, Y, h1, h2, x.st.kp k (o.at _), x.ac.kp k (o.at _), fun i hi => (x.sr i hi).kp k (o.app _) n⟩
/-! Types. -/
theorem bsAct : bsI P ty_Sl_api_Act = some (ty_api_Act, 3, #[.int .i64 0, .int .i64 0, .int .i64 0]) := by kernel_rfl
theorem unSlAct : P.underlying ty_Sl_api_Act = some (.slice ty_api_Act) := by kernel_rfl
theorem apAct : apC P ty_api_Act = some (3, 24, 3) := by kernel_rfl
theorem bdAct (a b c : Int) : bdV (binf P ty_api_Act) [(0, .int .i64 a), (1, .int .i64 b), (2, .int .i64 c)] = some (.agg #[.int .i64 a, .int .i64 b, .int .i64 c]) := by kernel_rfl
theorem zcTime : zc P ty_api_Time = some #[.int .u64 0, .int .u64 0, .bool false] := by kernel_rfl
theorem zcCfg : zc P ty_api_Config = some #[.int .i64 0, .int .i64 0, .int .i64 0, .int .i64 0, .int .i64 0, .int .u64 0, .int .u64 0] := by kernel_rfl
theorem bdTime (a : Int) : bdV (binf P ty_api_Time) [(0, .int .u64 a)] = some (.agg #[.int .u64 a, .int .u64 0, .bool false]) := by kernel_rfl
theorem bdHall (a b c d e f g t s : Int) (k : Bool) : bdV (binf P ty_hall_Hall) [(0, .agg #[.int .i64 a, .int .i64 b, .int .i64 c, .int .i64 d, .int .i64 e, .int .u64 f, .int .u64 g]), (1, .agg #[.int .u64 t, .int .u64 s, .bool k])] =
  some (.agg #[.int .i64 a, .int .i64 b, .int .i64 c, .int .i64 d, .int .i64 e, .int .u64 f, .int .u64 g, .int .u64 t, .int .u64 s, .bool k, .slice none 0 0, .slice none 0 0]) := by kernel_rfl
theorem bdStripe (v b : Int) (fp : Option Addr) : bdV (binf P ty_hall_stripe) [(1, .agg #[.int .u64 v, .int .u64 b]), (4, .pointer fp)] =
  some (.agg #[.int .i64 0, .int .u64 v, .int .u64 b, .slice none 0 0, .slice none 0 0, .slice none 0 0, .slice none 0 0, .pointer fp]) := by kernel_rfl
theorem bsStripe : bsI P ty_Sl_hall_stripe = some (ty_hall_stripe, 8, #[.int .i64 0, .int .u64 0, .int .u64 0, .slice none 0 0, .slice none 0 0, .slice none 0 0, .slice none 0 0, .pointer none]) := by kernel_rfl
theorem unSlStripe : P.underlying ty_Sl_hall_stripe = some (.slice ty_hall_stripe) := by kernel_rfl
theorem apStripe : apC P ty_hall_stripe = some (8, 128, 8) := by kernel_rfl
theorem bdFeed : bdV (binf P ty_feed_Feed) [] = some (.agg #[.slice none 0 0, .slice none 0 0, .pointer none, .pointer none, .pointer none, .pointer none, .pointer none, .pointer none, .pointer none, .pointer none]) := by kernel_rfl
theorem bdRing (n : Int) : bdV (binf P ty_ring_Ring_doorman_api_Event) [(0, .int .i64 n)] = some (.agg #[.int .i64 n, .slice none 0 0, .bool false]) := by kernel_rfl
theorem bdCell (n : Int) : bdV (binf P ty_cell_Cell) [(1, .int .u64 n)] = some (.agg #[.int .u64 0, .int .u64 n]) := by kernel_rfl
theorem zcCell : zc P ty_cell_Cell = some #[.int .u64 0, .int .u64 0] := by kernel_rfl
theorem zcLatch : zc P ty_latch_Latch = some #[.int .i64 0] := by kernel_rfl
theorem bdLatch (n : Int) : bdV (binf P ty_latch_Latch) [(0, .int .i64 n)] = some (.agg #[.int .i64 n]) := by kernel_rfl
theorem bdLatch0 : bdV (binf P ty_latch_Latch) [] = some (.agg #[.int .i64 0]) := by kernel_rfl
/-! What is pure. -/
theorem within_ok (n lo hi : Int) {h : Heap} {K : Value → Heap → Prop} (hk : K (.bool (decide (lo ≤ n ∧ n ≤ hi))) h) : callM P fn_model_within #[.int .i64 n, .int .i64 lo, .int .i64 hi] h K := by
  apply e_model_within
  unfold d_model_within
  by_cases h1 : lo ≤ n <;> simpa [h1] using hk
theorem place_ok (s w : Int) {h : Heap} {K : Value → Heap → Prop} (hs : 0 ≤ s ∧ s < 1000 ∧ 0 ≤ w ∧ w < 10) (hk : K (.int .i64 (4 * s + w)) h) : callM P fn_hall_Place #[.int .i64 s, .int .i64 w] h K := by
  apply e_hall_Place
  unfold d_hall_Place
  simp only [bin_mul, bin_add, ov_s, wrap64_id (n := 4 * s) (by omega) (by omega), wrap64_id (n := 4 * s + w) (by omega) (by omega)]
  exact hk
end Go.Proofs.Ytcnphhhcknhhaaa

namespace Go.Proofs.Ytcnphhhcknhhaaa
open Go Go.Den Go.MapKept
set_option linter.unusedSimpArgs false
set_option linter.unusedVariables false
set_option maxRecDepth 20000
/-! Small functions. -/
theorem hashRight_ok (s : ByteArray) {h : Heap} {K : Value → Heap → Prop} (hk : K (.bool (nameB s)) h) : callM P fn_hash_Right #[.string s] h K := by
  apply e_hash_Right
  unfold d_hash_Right
  have : nameB s = (!decide (s = ⟨#[]⟩) && decide ((s.size : Int) ≤ 16)) := by
    unfold nameB; by_cases h0 : s.size = 0
    · rw [(str_empty s).2 h0]; rfl
    · have : ¬ s = ⟨#[]⟩ := fun e => h0 ((str_empty s).1 e)
      rw [Bool.eq_iff_iff]; simp [this]; omega
  rw [this] at hk
  simp +contextual -implicitDefEqProofs [-Bool.decide_eq_true]
  exact hk
theorem refName_ok (s : ByteArray) {h : Heap} {K : Value → Heap → Prop} (hk : K (.bool (nameB s)) h) : callM P fn_doormanref10_name #[.string s] h K := by
  apply e_doormanref10_name
  unfold d_doormanref10_name
  have : nameB s = (decide ((0 : Int) < s.size) && decide ((s.size : Int) < 17)) := by
    unfold nameB; rw [← Bool.decide_and]; congr 1; simp; omega
  rw [this] at hk
  simp +contextual -implicitDefEqProofs
  simpa using hk
theorem sessRight_ok (a b c : Int) {h : Heap} {K : Value → Heap → Prop} (hk : K (.bool (decide (0 ≤ a ∧ a ≤ 255 ∧ 1 ≤ b ∧ b ≤ 9 ∧ 0 ≤ c ∧ c ≤ 9))) h) : callM P fn_sess_Right #[.int .i64 a, .int .i64 b, .int .i64 c] h K := by
  apply e_sess_Right
  unfold d_sess_Right
  simp +contextual -implicitDefEqProofs
  simpa [Bool.decide_and, and_assoc, Bool.and_assoc] using hk
theorem modRight_ok (c : Cfg) {h : Heap} {K : Value → Heap → Prop} (hk : ∀ h', Ext h h' → K (.bool (rightB c)) h') : callM P fn_model_Right #[.agg (cfgC c).toArray] h K := by
  apply e_model_Right
  unfold d_model_Right
  refine nw_agg fun v1 h2 n2 e2 c2 => ?_
  simp only [cfgC] at c2
  simp only [faV_p, ov_s, ldV_c, cel_of c2, Nat.zero_add, List.getElem?_toArray, List.getElem?_cons_zero]
  refine within_ok _ _ _ ?_
  unfold d_model_Right_1
  simp +contextual -implicitDefEqProofs [cel_of c2]
  refine gM_call0 (a := .bool (decide (1 ≤ c.sessions ∧ c.sessions ≤ 8))) (fun hc K' hk' => within_ok _ _ _ hk') ?_
  simp +contextual -implicitDefEqProofs [cel_of c2]
  refine gM_call0 (a := .bool (decide (1 ≤ c.queue ∧ c.queue ≤ 16))) (fun hc K' hk' => within_ok _ _ _ hk') ?_
  simp +contextual -implicitDefEqProofs [cel_of c2]
  refine gM_call0 (a := .bool (decide (1 ≤ c.watches ∧ c.watches ≤ 8))) (fun hc K' hk' => within_ok _ _ _ hk') ?_
  simp +contextual -implicitDefEqProofs [cel_of c2]
  refine gM_call0 (a := .bool (decide (0 ≤ c.retries ∧ c.retries ≤ 4))) (fun hc K' hk' => within_ok _ _ _ hk') ?_
  simp +contextual -implicitDefEqProofs [cel_of c2]
  refine kb (hk h2 e2) ?_
  rw [Bool.eq_iff_iff]; simp [rightB]; omega
theorem refRight_ok (c : Cfg) {h : Heap} {K : Value → Heap → Prop} (hk : ∀ h', Ext h h' → K (.bool (rightB c)) h') : callM P fn_doormanref10_Right #[.agg (cfgC c).toArray] h K := by
  apply e_doormanref10_Right
  unfold d_doormanref10_Right
  refine nw_agg fun v1 h2 n2 e2 c2 => ?_
  simp only [cfgC] at c2
  simp +contextual -implicitDefEqProofs [cel_of c2]
  have := hk h2 e2
  refine kb this ?_
  rw [Bool.eq_iff_iff]; simp [rightB]; omega
end Go.Proofs.Ytcnphhhcknhhaaa

namespace Go.Proofs.Ytcnphhhcknhhaaa
open Go Go.Den Go.MapKept
set_option linter.unusedSimpArgs false
set_option linter.unusedVariables false
set_option maxRecDepth 20000
/-! Hashes. -/
theorem st_byte {s : ByteArray} {i : Nat} (hi : i < s.size) {k : IntKind} : stV (.string s) (.int k i) = some (.int .u8 (byteAt s i)) := by
  have : s[i]? = some s[i] := by simp [hi]
  simp -implicitDefEqProofs [stV, byteAt, this]
theorem byte_rng (s : ByteArray) (i : Nat) : 0 ≤ byteAt s i ∧ byteAt s i ≤ 255 := by
  unfold byteAt
  split
  · rename_i b _; have := b.toNat_lt; omega
  · omega
theorem hashOf_ok (s : ByteArray) (hs : s.size ≤ maxLen) {h : Heap} {K : Value → Heap → Prop} (hk : K (.int .u64 (fnv s)) h) : callM P fn_hash_Of #[.string s] h K := by
  apply e_hash_Of
  unfold d_hash_Of
  rw [seqM_eq]
  unfold d_hash_Of_1
  simp only [lnV_t, ov_s]
  refine loop_on [0, 5, 6] (fun t h' => h' = h ∧ ∃ i : Nat, i ≤ s.size ∧ t 7 = .int .i64 i ∧ t 3 = .int .u64 (fnvTo s i)) (fun t _ => (s.size - num (t 7)).toNat) ⟨rfl, 0, by omega, rfl, rfl⟩ ?_
  rintro t h1 hf ⟨rfl, i, hi, t7, t3⟩
  have t0 : t 0 = .string s := by simpa using hf 0 (by simp)
  have t5 : t 5 = .string s := by simpa using hf 5 (by simp)
  have t6 : t 6 = .int .i64 s.size := by simpa using hf 6 (by simp)
  unfold maxLen at hs
  unfold d_hash_Of_2
  simp only [t7, t6, bin_lss, ov_s, cd_b]
  refine ⟨fun hc => ?_, fun hc => ?_⟩
  · have hlt : i < s.size := by have : ((i : Int) < s.size) := by simpa using hc
                                omega
    have hb := byte_rng s i
    unfold d_hash_Of_3
    have hw : IntKind.i64.wrap ((i : Int) + 1) = i + 1 := wrap64_id (by omega) (by omega)
    simp -implicitDefEqProofs [t0, t7, t3, st_byte hlt, wrapU_id (n := byteAt s i) (by omega) (by omega), bin_fnvX, hw, t5, t6]
    exact ⟨⟨i + 1, by omega, by simp, by simp [fnvTo, fnvStep]⟩, by omega⟩
  · have : i = s.size := by have : ¬ ((i : Int) < s.size) := by simpa using hc
                            omega
    subst this
    simp -implicitDefEqProofs [t3]
    exact hk
theorem stripe_ok (s : ByteArray) (n : Int) (hn : n ≤ 1000) (hs : s.size ≤ maxLen) {h : Heap} {K : Value → Heap → Prop} (hk : K (.int .i64 (stripeOf s n)) h) : callM P fn_hash_Stripe #[.string s, .int .i64 n] h K := by
  apply e_hash_Stripe
  unfold d_hash_Stripe
  simp only [bin_lss, ov_s, cd_b]
  refine ⟨fun hc => ?_, fun hc => ?_⟩
  · have : n < 1 := by simpa using hc
    simpa [stripeOf, this] using hk
  · have hn1 : ¬ n < 1 := by simpa using hc
    unfold d_hash_Stripe_1
    refine hashOf_ok s hs ?_
    have hf := fnv_rng s
    have hm : (fnv s).tmod n = fnv s % n := Int.tmod_eq_emod_of_nonneg hf.1
    have hl := Int.emod_nonneg (fnv s) (show n ≠ 0 by omega)
    have hu := Int.emod_lt_of_pos (fnv s) (show 0 < n by omega)
    simp -implicitDefEqProofs [wrapU_id (n := n) (by omega) (by omega), show n ≠ 0 by omega, hm, wrap64_id (n := fnv s % n) (by omega) (by omega)]
    simpa [stripeOf, hn1] using hk
theorem stripeOf_rng (s : ByteArray) {n : Int} (hn : 1 ≤ n) : 0 ≤ stripeOf s n ∧ stripeOf s n < n := by
  unfold stripeOf
  rw [if_neg (by omega)]
  exact ⟨Int.emod_nonneg _ (by omega), Int.emod_lt_of_pos _ (by omega)⟩
/-! Epochs and locks. -/
def cellC (v b : Int) : List Value := [.int .u64 v, .int .u64 b]
theorem cellNew_ok (b : Int) (hb : U64 b) {h : Heap} {K : Value → Heap → Prop} (hk : ∀ h', Ext h h' → K (.agg (cellC 0 (evn b)).toArray) h') : callM P fn_cell_New #[.int .u64 b] h K := by
  apply e_cell_New
  unfold d_cell_New
  simp only [zcCell, nwM_s, bin_andNot1 _ _ hb, ov_s, bdCell]
  intro v1 n1
  simp -implicitDefEqProofs [stm_upd, ld_same, cel_same, over]
  exact hk _ (Ext.upd n1 _)
theorem value_ok (v b : Int) {h : Heap} {K : Value → Heap → Prop} (hk : ∀ h', Ext h h' → K (.int .u64 v) h') : callM P fn_cell_Cell_Value #[.agg (cellC v b).toArray] h K := by
  apply e_cell_Cell_Value
  unfold d_cell_Cell_Value
  simp only [nwM_s, cells_agg, cellC]
  intro v1 n1
  simp -implicitDefEqProofs [cel_same]
  exact hk _ (Ext.upd n1 _)
theorem spent_ok (v b : Int) {h : Heap} {K : Value → Heap → Prop} (hk : ∀ h', Ext h h' → K (.bool (decide (b ≤ v))) h') : callM P fn_cell_Cell_Spent #[.agg (cellC v b).toArray] h K := by
  apply e_cell_Cell_Spent
  unfold d_cell_Cell_Spent
  simp only [nwM_s, cells_agg, cellC]
  intro v1 n1
  simp -implicitDefEqProofs [cel_same]
  exact hk _ (Ext.upd n1 _)
theorem writing_ok (v b : Int) (hv : U64 v) {h : Heap} {K : Value → Heap → Prop} (hk : ∀ h', Ext h h' → K (.bool (wrt v)) h') : callM P fn_cell_Cell_Writing #[.agg (cellC v b).toArray] h K := by
  apply e_cell_Cell_Writing
  unfold d_cell_Cell_Writing
  simp only [nwM_s, cells_agg, cellC]
  intro v1 n1
  simp -implicitDefEqProofs [cel_same, bin_and1 _ _ hv]
  exact kb (hk _ (Ext.upd n1 _)) (by simp [wrt])
theorem tgCell : tagg P ty_cell_Cell = some (some 2) := by kernel_rfl
theorem begin_ok (v b : Int) (hv : U64 v) (hb : U64 b) {h : Heap} {K : Value → Heap → Prop} (hk : ∀ h', Ext h h' → K (.agg (cellC (bgn v b) b).toArray) h') : callM P fn_cell_Cell_Begin #[.agg (cellC v b).toArray] h K := by
  apply e_cell_Cell_Begin
  unfold d_cell_Cell_Begin
  refine nw_agg fun v1 h1 n1 e1 c1 => ?_
  rw [zcCell]
  refine nw_intro fun v3 h2 n3 e3 c3 => ?_
  have hne := ne_fresh c1 n3
  have c1 := e3 _ _ c1
  rw [seqM_eq]
  unfold d_cell_Cell_Begin_1
  simp only [ld_box c1 (n := 2) rfl, ov_s]
  refine spent_ok v b fun h3 e4 => ?_
  have c1 := e4 _ _ c1
  have c3 := e4 _ _ c3
  have e0 := (e1.trans e3).trans e4
  have n3 := fresh_of e1 n3
  unfold d_cell_Cell_Begin_2
  simp only [cellC] at c1
  by_cases hbv : b ≤ v
  · simp -implicitDefEqProofs [hbv, ld_at c1, cel_of c1, stm_at c1, ld_at c3, cel_of c3, stm_at c3, stm_upd, ld_same, cel_same, over, tgCell]
    exact kv (hk _ (ext_upd n3 e0)) (by simp [cellC, bgn, show ¬ v < b by omega])
  · simp -implicitDefEqProofs [hbv, ld_at c1, cel_of c1, stm_at c1, stm_upd, ld_same, cel_same, over]
    refine writing_ok v b hv fun h4 e5 => ?_
    have c1 := e5 _ _ c1
    have c3 := e5 _ _ c3
    have e0 := e0.trans e5
    unfold d_cell_Cell_Begin_3
    cases hw : wrt v
    · have : IntKind.u64.wrap (v + 1) = v + 1 := wrapU_id (by have := hv.1; omega) (by have := hb.2; omega)
      simp -implicitDefEqProofs [ld_at c1, cel_of c1, stm_at c1, ld_at c3, cel_of c3, stm_at c3, stm_skip hne, stm_skip (Ne.symm hne), ld_skip hne, ld_skip (Ne.symm hne), cel_skip hne, cel_skip (Ne.symm hne), stm_upd, ld_same, cel_same, over, this, tgCell]
      exact kv (hk _ (ext_upd n1 (ext_upd n3 e0))) (by simp [cellC, bgn, show v < b by omega, hw])
    · simp -implicitDefEqProofs [ld_at c1, cel_of c1, stm_at c1, ld_at c3, cel_of c3, stm_at c3, stm_upd, ld_same, cel_same, over, tgCell]
      exact kv (hk _ (ext_upd n3 e0)) (by simp [cellC, bgn, hw])
theorem valid_ok (a b bound : Int) (ha : U64 a) (hb : U64 bound) {h : Heap} {K : Value → Heap → Prop} (hk : K (.bool (validB a b bound)) h) : callM P fn_cell_Valid #[.int .u64 a, .int .u64 b, .int .u64 bound] h K := by
  apply e_cell_Valid
  unfold d_cell_Valid
  simp +contextual -implicitDefEqProofs [bin_and1 _ _ ha, bin_andNot1 _ _ hb]
  exact kb hk (by simp [validB, Bool.and_assoc])
theorem lfree_ok (w : Int) {h : Heap} {K : Value → Heap → Prop} (hk : ∀ h', Ext h h' → K (.bool (decide (w = 0))) h') : callM P fn_latch_Latch_Free #[.agg #[.int .i64 w]] h K := by
  apply e_latch_Latch_Free
  unfold d_latch_Latch_Free
  simp only [nwM_s, cells_agg]
  intro v1 n1
  simp -implicitDefEqProofs [cel_same]
  exact hk _ (Ext.upd n1 _)
theorem lowner_ok (w : Int) (hw : -1000000 ≤ w ∧ w ≤ 1000000) {h : Heap} {K : Value → Heap → Prop} (hk : ∀ h', Ext h h' → K (.int .i64 (w - 1)) h') : callM P fn_latch_Latch_Owner #[.agg #[.int .i64 w]] h K := by
  apply e_latch_Latch_Owner
  unfold d_latch_Latch_Owner
  simp only [nwM_s, cells_agg]
  intro v1 n1
  simp -implicitDefEqProofs [cel_same, wrap64_id (n := w - 1) (by omega) (by omega)]
  exact hk _ (Ext.upd n1 _)
theorem ltake_ok (w who : Int) (hw : -1000 ≤ who ∧ who ≤ 1000000) {h : Heap} {K : Value → Heap → Prop} (hk : ∀ h', Ext h h' → K (.tuple #[.agg #[.int .i64 (if canTake w who then who + 1 else w)], .bool (canTake w who)]) h') : callM P fn_latch_Latch_Take #[.agg #[.int .i64 w], .int .i64 who] h K := by
  apply e_latch_Latch_Take
  unfold d_latch_Latch_Take
  refine nw_agg fun v1 h1 n1 e1 c1 => ?_
  rw [zcLatch]
  refine nw_intro fun v3 h2 n3 e3 c3 => ?_
  have hne := ne_fresh c1 n3
  have c1 := e3 _ _ c1
  have n3 := fresh_of e1 n3
  have e0 := e1.trans e3
  unfold d_latch_Latch_Take_1 d_latch_Latch_Take_2
  by_cases hw0 : who < 0
  · simp -implicitDefEqProofs [hw0, ld_at c1, cel_of c1, stm_at c1, ld_at c3, cel_of c3, stm_at c3, stm_upd, ld_same, cel_same, over]
    exact kv (hk _ (ext_upd n3 e0)) (by simp [canTake, show ¬ 0 ≤ who by omega])
  · simp -implicitDefEqProofs [hw0, ld_at c1, cel_of c1, stm_at c1, stm_upd, ld_same, cel_same, over]
    refine lfree_ok w fun h4 e5 => ?_
    have c1 := e5 _ _ c1
    have c3 := e5 _ _ c3
    have e0 := e0.trans e5
    by_cases hw : w = 0
    · simp -implicitDefEqProofs [hw, ld_at c3, cel_of c3, stm_at c3, stm_upd, ld_same, cel_same, over, bdLatch, wrap64_id (n := who + 1) (by omega) (by omega)]
      exact kv (hk _ (ext_upd n3 e0)) (by simp [canTake, hw, show 0 ≤ who by omega])
    · simp -implicitDefEqProofs [hw, ld_at c1, cel_of c1, stm_at c1, ld_at c3, cel_of c3, stm_at c3, stm_upd, ld_same, cel_same, over]
      exact kv (hk _ (ext_upd n3 e0)) (by simp [canTake, hw])
theorem lgive_ok (w who : Int) (hw : -1000000 ≤ w ∧ w ≤ 1000000) {h : Heap} {K : Value → Heap → Prop} (hk : ∀ h', Ext h h' → K (.tuple #[.agg #[.int .i64 (if canGive w who then 0 else w)], .bool (canGive w who)]) h') : callM P fn_latch_Latch_Give #[.agg #[.int .i64 w], .int .i64 who] h K := by
  apply e_latch_Latch_Give
  unfold d_latch_Latch_Give
  refine nw_agg fun v1 h1 n1 e1 c1 => ?_
  rw [zcLatch]
  refine nw_intro fun v3 h2 n3 e3 c3 => ?_
  have hne := ne_fresh c1 n3
  have c1 := e3 _ _ c1
  have n3 := fresh_of e1 n3
  have e0 := e1.trans e3
  simp -implicitDefEqProofs [ld_at c1, cel_of c1, stm_at c1, stm_upd, ld_same, cel_same, over]
  refine lfree_ok w fun h4 e5 => ?_
  have c1 := e5 _ _ c1
  have c3 := e5 _ _ c3
  have e0 := e0.trans e5
  unfold d_latch_Latch_Give_1 d_latch_Latch_Give_2 d_latch_Latch_Give_3
  by_cases hw0 : w = 0
  · simp -implicitDefEqProofs [hw0, ld_at c1, cel_of c1, stm_at c1, ld_at c3, cel_of c3, stm_at c3, stm_upd, ld_same, cel_same, over]
    exact kv (hk _ (ext_upd n3 e0)) (by simp [canGive, hw0])
  · simp -implicitDefEqProofs [hw0, ld_at c1, cel_of c1, stm_at c1, stm_upd, ld_same, cel_same, over]
    refine lowner_ok w hw fun h4 e5 => ?_
    have c1 := e5 _ _ c1
    have c3 := e5 _ _ c3
    have e0 := e0.trans e5
    by_cases hg : w - 1 = who
    · simp -implicitDefEqProofs [hg, ld_at c3, cel_of c3, stm_at c3, stm_upd, ld_same, cel_same, over, bdLatch0]
      exact kv (hk _ (ext_upd n3 e0)) (by simp [canGive, hw0, hg])
    · simp -implicitDefEqProofs [hg, ld_at c1, cel_of c1, stm_at c1, ld_at c3, cel_of c3, stm_at c3, stm_upd, ld_same, cel_same, over]
      exact kv (hk _ (ext_upd n3 e0)) (by simp [canGive, hg])
end Go.Proofs.Ytcnphhhcknhhaaa

namespace Go.Proofs.Ytcnphhhcknhhaaa
open Go Go.Den Go.MapKept
set_option linter.unusedSimpArgs false
set_option linter.unusedVariables false
set_option maxRecDepth 20000
theorem ringNew_ok (room : Int) {T : Tags} {h : Heap} (w : Wf T h) {g : Tag} (gg : Gd g) {K : Value → Heap → Prop} (hk : ∀ T' h' p, Only (pre g) T h T' h' → RingR T' h' g p (ring0 room) → K (ptr p) h') : callM P fn_ring_New_api_Event #[.int .i64 room] h K := by
  apply e_ring_New_api_Event
  unfold d_ring_New_api_Event
  refine vv_max ?_
  simp only [bdRing, ov_s, nwM_s]
  intro p n
  exact hk (tset T p (g ++ [0])) _ p (Only.new _ w n) ⟨_, upd_same' _ _ _, tset_same _ _ _, Rw.nil _ _ _ _ _⟩
theorem ia_arr {n p o i : Nat} {k : IntKind} (hi : i < n) : iaV (some (some n, 1)) (.pointer (some ⟨p, o, none⟩)) (.int k i) = some (.pointer (some ⟨p, o + i, none⟩)) := by
  have h1 : (0 : Int) ≤ i ∧ (i : Int) < n := by omega
  simp -implicitDefEqProofs [iaV, h1]
theorem feed_over {kv vv : Value} {q : Nat → Value} {j : Nat} {x : Value} (hj : j < 8) : over (feedC kv vv q).toArray (2 + j) [x] = (feedC kv vv fun k => if k = j then x else q k).toArray := by
  unfold feedC
  rw [over_map1 (by omega)]
  congr 1
  apply List.map_congr_left
  intro k _
  match k with
  | 0 => simp [feedG]; omega
  | 1 => simp [feedG]; omega
  | k + 2 => simp only [feedG]; by_cases h : k = j
             · subst h; rw [if_pos (by omega), if_pos rfl]
             · rw [if_neg (by omega), if_neg h]
theorem feedC_len (kv vv : Value) (q : Nat → Value) : (feedC kv vv q).length = 10 := by simp [feedC]
theorem feedC_congr {kv vv : Value} {q q' : Nat → Value} (h : ∀ k, k < 8 → q k = q' k) : feedC kv vv q = feedC kv vv q' := by
  unfold feedC
  apply List.map_congr_left
  intro k hk
  match k with
  | 0 => rfl
  | 1 => rfl
  | k + 2 => simp only [feedG]; exact h k (by have := List.mem_range.1 hk; omega)
def FeedNewI (T : Tags) (h : Heap) (g : Tag) (p : Nat) (room : Int) (v : Value) (h' : Heap) : Prop := ∃ (T' : Tags) (j : Nat) (q : Nat → Nat), Only (pre g) T h T' h' ∧ h' p = some (.cells (feedC (.slice none 0 0) (.slice none 0 0) fun k => if k < j then ptr (q k) else .pointer none).toArray ty_feed_Feed (0, 0)) ∧ T' p = g ++ [0] ∧
      (∀ k, k < j → RingR T' h' (g ++ [1, k]) (q k) (ring0 room)) ∧ j ≤ 8 ∧ v = .int .i64 j
theorem feedNew_ok (room : Int) {T : Tags} {h : Heap} (w : Wf T h) {g : Tag} (gg : Gd g) {K : Value → Heap → Prop} (hk : ∀ T' h' p, Only (pre g) T h T' h' → FeedR T' h' g p (feed0 room) → K (ptr p) h') : callM P fn_feed_New #[.int .i64 room] h K := by
  apply e_feed_New
  unfold d_feed_New
  simp only [bdFeed, ov_s, nwM_s]
  intro p n
  rw [seqM_eq]
  unfold d_feed_New_1
  refine loop_on [0, 3] (fun s h' => FeedNewI T h g p room (s 7) h') (fun s _ => (8 - num (s 7)).toNat)
    ⟨tset T p (g ++ [0]), 0, fun _ => 0, Only.new _ w n, upd_same' _ _ _, tset_same _ _ _, fun k hk => by omega, by omega, rfl⟩ ?_
  rintro s h1 hf ⟨T1, j, q, o1, hp, tp, hr, hj, s7⟩
  have s0 : s 0 = .int .i64 room := by simpa using hf 0 (by simp)
  have s3 : s 3 = ptr p := by simpa using hf 3 (by simp)
  unfold d_feed_New_2
  simp only [s7, bin_lss, ov_s, cd_b]
  refine ⟨fun hc => ?_, fun hc => ?_⟩
  · have hlt : j < 8 := by have : ((j : Int) < 8) := by simpa using hc
                           omega
    unfold d_feed_New_3
    simp only [s0, s3, ptr, ncV_p, ov_s, faV_p]
    refine ringNew_ok room o1.wf (gg.app [1, j]) fun T2 h2 p2 o2 r2 => ?_
    unfold d_feed_New_4
    have hp2 := o2.k.at hp tp (not_pre (by simp))
    simp only [s7, Nat.zero_add, ia_arr hlt, ov_s, ptr]
    rw [stm_at hp2.1 (by simp) (by simp [feedC_len]; omega) (by simp)]
    simp only [cells_p, feed_over hlt]
    have hw : IntKind.i64.wrap ((j : Int) + 1) = j + 1 := wrap64_id (by omega) (by omega)
    simp -implicitDefEqProofs [s7, s0, s3, hw]
    have o3 : Only (fun t => t = g ++ [0]) T2 h2 T2 (upd h2 p (.cells (feedC (.slice none 0 0) (.slice none 0 0) fun k => if k = j then ptr p2 else if k < j then ptr (q k) else .pointer none).toArray ty_feed_Feed (0, 0))) := Only.upd o2.wf hp2.1 hp2.2
    refine ⟨?_, by omega⟩
    refine ⟨T2, j + 1, fun k => if k = j then p2 else q k, (o1.trans (o2.mono fun t => pre_trans)).st hp2.1 (by rw [hp2.2]; exact pre_app g _), ?_, hp2.2, fun k hk => ?_, by omega, by simp⟩
    · rw [upd_same']
      congr 3
      apply feedC_congr
      intro k hk
      by_cases e : k = j
      · subst e; simp [ptr]
      · simp only [if_neg e, ptr]; by_cases hkj : k < j
        · rw [if_pos hkj, if_pos (by omega)]
        · rw [if_neg hkj, if_neg (by omega)]
    · by_cases e : k = j
      · subst e; simp only [if_true]
        exact r2.kp o3.k (off_eq (by simp))
      · simp only [if_neg e]
        exact ((hr k (by omega)).kp o2.k (off_pre (by simp; omega) (by simp; omega))).kp o3.k (off_eq (by simp))
  · have : j = 8 := by have : ¬ ((j : Int) < 8) := by simpa using hc
                       omega
    subst this
    simp -implicitDefEqProofs [s3]
    refine hk T1 h1 p o1 ⟨.slice none 0 0, .slice none 0 0, q, ?_, tp, .inl ⟨rfl, _, _, rfl⟩, .inl ⟨rfl, _, _, rfl⟩, fun k hk => hr k hk⟩
    rw [hp]
    congr 3

end Go.Proofs.Ytcnphhhcknhhaaa

namespace Go.Proofs.Ytcnphhhcknhhaaa
open Go Go.Den Go.MapKept
set_option linter.unusedSimpArgs false
set_option linter.unusedVariables false
set_option maxRecDepth 20000
/-- The table's own blocks: itself, and the row of acts. -/
def U02 (g t : Tag) : Prop := t = g ++ [0] ∨ t = g ++ [2]
/-- And the row of stripes. -/
def U012 (g t : Tag) : Prop := t = g ++ [0] ∨ t = g ++ [1] ∨ t = g ++ [2]
theorem U02.up {g t : Tag} (h : U02 g t) : U012 g t := h.elim .inl fun h => .inr (.inr h)
theorem U012.pre {g t : Tag} (h : U012 g t) : Den.pre g t := by rcases h with rfl | rfl | rfl <;> exact pre_app _ _
theorem U02.one (g : Tag) : ¬ U02 g (g ++ [1]) := by rintro (h | h) <;> exact ne_tag (by simp) h
theorem U012.nil (g : Tag) : ¬ U012 g [] := by rintro (h | h | h) <;> simp at h
theorem U012.off (g : Tag) (i : Nat) : Off (U012 g) (g ++ [3, i]) := fun t ht => by
  rintro (h | h | h)
  · exact off_eq (by simp) t ht h
  · exact off_eq (by simp) t ht h
  · exact off_eq (by simp) t ht h
theorem did_ok (who kind place : Int) {T : Tags} {h : Heap} {g : Tag} {p : Nat} {H : Hall} (w : Wf T h) (gg : Gd g) {sv av : Value} {Y : Nat → SV} (x : HallX T h g p H sv av Y) (hl : H.acts.length < 1000000) {K : Value → Heap → Prop}
    (hk : ∀ T' h' av', Only (U02 g) T h T' h' → HallX T' h' g p (H.did who kind place) sv av' Y → K (.tuple #[]) h') : callM P fn_hall_Hall_did #[ptr p, .int .i64 who, .int .i64 kind, .int .i64 place] h K := by
  apply e_hall_Hall_did
  unfold d_hall_Hall_did
  have hp := x.hp
  simp only [hallC] at hp
  simp -implicitDefEqProofs [cel_of hp, bdAct]
  refine Rw.app bsAct unSlAct apAct (by omega) (by simp) (by simp) w x.ac (by unfold maxLen; omega) (by omega) (by omega) (app_ne _ _) fun a av' T1 h1 o1 r1 => ?_
  have hp1 := o1.k.at x.hp x.tp (ne_tag (by simp))
  have ho := r1.one
  rw [stm_at hp1.1 (by simp [ho.2]) (by simp [hallC]) (by simp [ho.1, ho.2])]
  have o2 : Only (U02 g) T h T1 (upd h1 p (.cells (over (hallC H sv av).toArray 11 av'.cells.toList) ty_hall_Hall (0, 0))) :=
    (o1.mono fun t e => .inr e).trans (Only.upd o1.wf hp1.1 (.inl hp1.2))
  refine hk T1 _ av' o2 ⟨?_, hp1.2, x.st.kp o2.k (U02.one g), ?_, fun i hi => (x.sr i hi).kp (o2.mono fun t => U02.up).k (U012.off g i) (U012.nil g)⟩
  · rw [upd_same']; simp [ho.2, hallC, over, Hall.did]
  · have o3 : Only (fun t => t = g ++ [0]) T1 h1 T1 (upd h1 p (.cells (over (hallC H sv av).toArray 11 av'.cells.toList) ty_hall_Hall (0, 0))) := Only.upd o1.wf hp1.1 hp1.2
    have := r1.kp o3.k (ne_tag (by simp))
    simpa [Hall.did, actC] using this
def HallNewI (T : Tags) (h : Heap) (g : Tag) (p : Nat) (c : Cfg) (v : Value) (h' : Heap) : Prop :=
  ∃ (T' : Tags) (i : Nat), Only (pre g) T h T' h' ∧ HallR T' h' g p (hall0 c i) ∧ i ≤ c.stripes.toNat ∧ v = .int .i64 i
theorem evn_rng {b : Int} (hb : U64 b) : U64 (evn b) := by unfold U64 evn at *; omega
theorem hallNew_ok (c : Cfg) (cw : CfgW c) {T : Tags} {h : Heap} (w : Wf T h) {g : Tag} (gg : Gd g) {K : Value → Heap → Prop}
    (hk1 : rightB c = true → ∀ T' h' p, Only (pre g) T h T' h' → HallR T' h' g p (hall0 c c.stripes.toNat) → K (.tuple #[ptr p, .int .i64 0]) h')
    (hk2 : rightB c = false → ∀ h', Ext h h' → K (.tuple #[.pointer none, .int .i64 1]) h') : callM P fn_hall_New #[.agg (cfgC c).toArray] h K := by
  apply e_hall_New
  unfold d_hall_New
  refine nw_agg fun v1 h1 n1 e1 c1 => ?_
  have c1' := c1
  simp only [cfgC] at c1
  simp -implicitDefEqProofs [ld_at c1, cel_of c1, stm_at c1, stm_upd, ld_same, cel_same, over]
  have ec : Value.agg #[.int .i64 c.stripes, .int .i64 c.sessions, .int .i64 c.queue, .int .i64 c.watches, .int .i64 c.retries, .int .u64 c.epochs, .int .u64 c.start] = .agg (cfgC c).toArray := rfl
  rw [ec]
  refine modRight_ok c fun h2 e2 => ?_
  have c1 := e2 _ _ c1
  have e0 := e1.trans e2
  unfold d_hall_New_1
  simp only [unV_n, ov_s, cd_b]
  refine ⟨fun hr => hk2 (by simpa using hr) _ e0, fun hr => ?_⟩
  have hr : rightB c = true := by simpa using hr
  have hn : 1 ≤ c.stripes ∧ c.stripes ≤ 8 := by simp [rightB] at hr; omega
  unfold d_hall_New_2
  simp -implicitDefEqProofs [ld_at c1, cel_of c1, stm_at c1, stm_upd, ld_same, cel_same, over, bdTime, bdHall]
  have w2 := w.ext e0
  refine nw_tag w2 (g ++ [0]) fun p T3 h3 n3 o3 t3 c3 => ?_
  rw [seqM_eq]
  unfold d_hall_New_3
  have b1 : h2 v1 = _ ∧ T v1 = [] := ⟨c1, w v1 n1⟩
  have b1 := o3.see b1 (not_non _)
  have c1 := b1.1
  simp -implicitDefEqProofs [ld_at c1, cel_of c1, stm_at c1, stm_upd, ld_same, cel_same, over]
  have o0 : Only (pre g) T h T3 h3 := (Only.of_ext w e0).up o3 non_up
  have x0 : HallR T3 h3 g p (hall0 c 0) := ⟨.slice none 0 0, .slice none 0 0, fun _ => ⟨.slice none 0 0, .slice none 0 0, .slice none 0 0, .slice none 0 0, 0⟩, c3, t3, Rw.nil _ _ _ _ _, Rw.nil _ _ _ _ _, fun i hi => by simp [hall0] at hi⟩
  refine loop_on [1, 4, 15] (fun s h' => HallNewI T3 h3 g p c (s 16) h') (fun s _ => (c.stripes.toNat - num (s 16)).toNat) ⟨T3, 0, Only.refl o3.wf, x0, by omega, rfl⟩ ?_
  rintro s h4 hf ⟨T4, i, o4, x4, hi, s16⟩
  have s1 : s 1 = ptr v1 := by simpa using hf 1 (by simp)
  have s4 : s 4 = ptr p := by simpa using hf 4 (by simp)
  have s15 : s 15 = .int .i64 c.stripes := by simpa using hf 15 (by simp)
  have b1 := o4.see b1 gg.nil
  have c1 := b1.1
  unfold d_hall_New_4
  simp only [s16, s15, bin_lss, ov_s, cd_b]
  refine ⟨fun hc => ?_, fun hc => ?_⟩
  rotate_left
  · have : i = c.stripes.toNat := by have : ¬ ((i : Int) < c.stripes) := by simpa using hc
                                     omega
    subst this
    simp -implicitDefEqProofs [s4]
    exact hk1 hr T4 h4 p (o0.trans o4) x4
  have hlt : i < c.stripes.toNat := by have : ((i : Int) < c.stripes) := by simpa using hc
                                       omega
  obtain ⟨sv, av, Y, x⟩ := x4
  have bp : h4 p = _ ∧ T4 p = _ := ⟨x.hp, x.tp⟩
  simp only [hallC] at bp
  have cp := bp.1
  unfold d_hall_New_5
  simp -implicitDefEqProofs [s1, s4, ld_at c1, cel_of c1, stm_at c1, ld_at cp, cel_of cp, stm_at cp, stm_upd, ld_same, cel_same, over]
  refine cellNew_ok _ cw.u1 fun h5 e5 => ?_
  have w4 := o4.wf
  have o5 : Only non T4 h4 T4 h5 := Only.of_ext w4 e5
  have c1 := e5 _ _ c1
  have bp := o5.see bp (not_non _)
  have cp := bp.1
  unfold d_hall_New_6
  simp -implicitDefEqProofs [s1, s4, ld_at c1, cel_of c1, stm_at c1, ld_at cp, cel_of cp, stm_at cp, stm_upd, ld_same, cel_same, over]
  refine feedNew_ok _ o5.wf (gg.app [3, i]) fun T6 h6 fp o6 r6 => ?_
  have bp := o6.see bp (not_pre (by simp))
  have cp := bp.1
  simp -implicitDefEqProofs [ld_at cp, cel_of cp, stm_at cp, stm_upd, ld_same, cel_same, over, cellC, bdStripe]
  refine bs_one bsStripe (by simp) (by omega) fun sb h7 n7 e7 c7 => ?_
  have o7 : Only non T6 h6 T6 h7 := Only.of_ext o6.wf e7
  have bp := o7.see bp (not_non _)
  have cp := bp.1
  have r7 := r6.kp o7.k (Off.non _) (not_non _)
  refine ⟨by simp [ld_at cp, cel_of cp, stm_at cp, stm_upd, ld_same, cel_same, over], ?_⟩
  have st4 : Rw T6 h6 (g ++ [1]) 8 ty_hall_stripe sv i _ := (x.st.kp o5.k (not_non _)).kp o6.k (not_pre (by simp))
  have st7 := st4.kp o7.k (not_non _)
  refine Rw.app1 (m := 1) (news := _) unSlStripe apStripe (by omega) o7.wf st7 (cels_one c7 (by simp)) (by simp) (by unfold maxLen; omega) (by omega) fun sv' T8 h8 o8 st8 => ?_
  have bp := o8.see bp (ne_tag (by simp))
  have cp := bp.1
  have ho := st8.one
  have hw : IntKind.i64.wrap ((i : Int) + 1) = i + 1 := wrap64_id (by omega) (by omega)
  simp -implicitDefEqProofs [ld_at cp, cel_of cp, stm_at cp, stm_upd, ld_same, cel_same, over, ho.1, ho.2, s16, s15, s1, s4, hw]
  refine ⟨?_, by omega⟩
  have o9 := fun o' => Only.upd (U := fun t => t = g ++ [0]) (o' := o') o8.wf bp.1 bp.2
  refine ⟨T8, i + 1, ((((o4.up o5 non_up).up o6 fun t => pre_trans).up o7 non_up).up o8 fun t e => e ▸ pre_app _ _).up (o9 _) fun t e => e ▸ pre_app _ _,
    ⟨sv', av, fun k => if k = i then ⟨.slice none 0 0, .slice none 0 0, .slice none 0 0, .slice none 0 0, fp⟩ else Y k, upd_same' _ _ _, bp.2, ?_, ?_, fun k hk => ?_⟩, by omega, by simp⟩
  · have := st8.kp (o9 (.cells #[.int .i64 c.stripes, .int .i64 c.sessions, .int .i64 c.queue, .int .i64 c.watches, .int .i64 c.retries, .int .u64 c.epochs, .int .u64 c.start, .int .u64 c.start, .int .u64 0, .bool false, sv', av] ty_hall_Hall (0, 0))).k (ne_tag (by simp))
    simp only [hall0]
    rw [seqF_succ]
    have e1 : seqF i (fun k => strC (strp0 c) (if k = i then ⟨.slice none 0 0, .slice none 0 0, .slice none 0 0, .slice none 0 0, fp⟩ else Y k)) = seqF i fun k => strC (strp0 c) (Y k) := seqF_congr fun k hk => by rw [if_neg (by omega)]
    rw [e1]
    simpa [hall0, strC, strp0] using this
  · exact ((((x.ac.kp o5.k (not_non _)).kp o6.k (not_pre (by simp))).kp o7.k (not_non _)).kp o8.k (ne_tag (by simp))).kp (o9 _).k (ne_tag (by simp))
  · have f9 := (o9 (.cells #[.int .i64 c.stripes, .int .i64 c.sessions, .int .i64 c.queue, .int .i64 c.watches, .int .i64 c.retries, .int .u64 c.epochs, .int .u64 c.start, .int .u64 c.start, .int .u64 0, .bool false, sv', av] ty_hall_Hall (0, 0))).k
    have a8 : ∀ k, Off (fun t => t = g ++ [1]) (g ++ [3, k]) := fun k => off_eq (by simp)
    have a9 : ∀ k, Off (fun t => t = g ++ [0]) (g ++ [3, k]) := fun k => off_eq (by simp)
    by_cases hki : k = i
    · subst hki
      simp only [if_true]
      have := (r7.kp o8.k (a8 _) (by simp)).kp f9 (a9 _) (by simp)
      exact ⟨BookR.nil _, BookR.nil _, this⟩
    · simp only [if_neg hki]
      have hki' : k < i := by simp [hall0] at hk; omega
      exact ((((((x.sr k hki').kp o5.k (Off.non _) (not_non _))).kp o6.k (off_pre (by simp; omega) (by simp; omega)) ((gg.app _).nil)).kp o7.k (Off.non _) (not_non _)).kp o8.k (a8 _) (by simp)).kp f9 (a9 _) (by simp)
end Go.Proofs.Ytcnphhhcknhhaaa

namespace Go.Proofs.Ytcnphhhcknhhaaa
open Go Go.Den Go.MapKept
set_option linter.unusedSimpArgs false
set_option linter.unusedVariables false
set_option maxRecDepth 20000
theorem HallR.up {T T' : Tags} {h h' : Heap} {g : Tag} {p : Nat} {H : Hall} {U : Tag → Prop} (x : HallR T h g p H) (o : Only U T h T' h') (f : Off U g) (n : ¬ U []) : HallR T' h' g p H := x.kp o.k f n
theorem strC_len (X : Strp) (y : SV) : (strC X y).length = 8 := rfl
/-- A stripe's values, as they are read. -/
theorem HallX.lds {T : Tags} {h : Heap} {g : Tag} {p : Nat} {H : Hall} {sv av : Value} {Y : Nat → SV} (x : HallX T h g p H sv av Y) {s : Nat} (hs : s < H.n) {k : IntKind} : ∃ b o, rowOf sv = some b ∧ h b = some o ∧ T b = g ++ [1] ∧
    iaV (some (none, 8)) sv (.int k s) = some (.pointer (some ⟨b, s * 8, none⟩)) ∧
    ldV (some (some 1)) (.pointer (some ⟨b, s * 8, none⟩)) h = some (.agg #[.int .i64 (H.ss s).who]) ∧
    ldV (some (some 2)) (.pointer (some ⟨b, s * 8 + 1, none⟩)) h = some (.agg (cellC (H.ss s).v (H.ss s).bound).toArray) ∧
    ldV (some (some 2)) (.pointer (some ⟨b, s * 8 + 3, none⟩)) h = some (.agg #[(Y s).sk, (Y s).sv]) ∧
    ldV (some (some 2)) (.pointer (some ⟨b, s * 8 + 5, none⟩)) h = some (.agg #[(Y s).bk, (Y s).bv]) ∧
    cel h b (s * 8 + 7) = some (ptr (Y s).fp) ∧
    ldV (some (some 8)) (.pointer (some ⟨b, s * 8, none⟩)) h = some (.agg (strC (H.ss s) (Y s)).toArray) := by
  obtain ⟨b, h1, h2⟩ := x.st.1.ia (k := k) hs
  obtain ⟨o, ho⟩ := x.st.1.lt b h1
  have hc : ∀ off m, off + m ≤ 8 → cels h b (s * 8 + off) m = some (((strC (H.ss s) (Y s)).drop off).take m) := fun off m hm => by
    rw [x.st.1.cels h1 (o := s * 8 + off) (m := m) (by have : (s + 1) * 8 ≤ H.n * 8 := Nat.mul_le_mul_right _ hs; omega)]
    have := seqF_at (F := fun i => strC (H.ss i) (Y i)) (sz := 8) (fun i _ => strC_len _ _) hs
    rw [← this, List.drop_take, List.take_take, List.drop_drop, Nat.min_eq_left (by omega)]
  refine ⟨b, o, h1, ho, x.st.2 b h1, h2, ?_, ?_, ?_, ?_, ?_, ?_⟩
  · have := hc 0 1 (by omega); rw [Nat.add_zero] at this; simp [ldV, this, strC]
  · simp -implicitDefEqProofs [ldV, hc 1 2 (by omega), strC, cellC]
  · simp -implicitDefEqProofs [ldV, hc 3 2 (by omega), strC]
  · simp -implicitDefEqProofs [ldV, hc 5 2 (by omega), strC]
  · have := hc 7 1 (by omega)
    obtain ⟨h3, h4⟩ := cels_get this
    have := h4 0 (by simp [strC])
    simpa [strC] using this
  · have := hc 0 8 (by omega); rw [Nat.add_zero] at this; simp [ldV, this, strC]
/-- A stripe's part is written. -/
theorem HallX.stw {T : Tags} {h : Heap} {g : Tag} {p : Nat} {H : Hall} {sv av : Value} {Y : Nat → SV} (x : HallX T h g p H sv av Y) (w : Wf T h) {s b : Nat} (hs : s < H.n) (hb : rowOf sv = some b) {off m o : Nat} {v : Value} {X' : Strp} {y' : SV}
    (eo : o = s * 8 + off) (hm : v.cells.size = m) (ho : off + m ≤ 8) (h1 : v.cells.toList.all (fun u => u.oneCell') = true) (hc : spl (strC (H.ss s) (Y s)) off v.cells.toList = strC X' y') (hr : StrpR T h (g ++ [3, s]) X' y') {K : Heap → Prop}
    (hk : ∀ h', Only (fun t => t = g ++ [1]) T h T h' → HallX T h' g p (H.put s X') sv av (fun k => if k = s then y' else Y k) → K h') : stM (some m) (.pointer (some ⟨b, o, none⟩)) v h K := by
  subst eo
  have tb := x.st.2 b hb
  refine x.st.1.st hb hm (by have : (s + 1) * 8 ≤ H.n * 8 := Nat.mul_le_mul_right _ hs; omega) (List.all_eq_true.1 h1) fun h' hk' hrow => ?_
  obtain ⟨ob, hob⟩ := x.st.1.lt b hb
  obtain ⟨ob', hob'⟩ := hrow.lt b hb
  have e : h' = upd h b ob' := upd_of hk' hob'
  have o1 : Only (fun t => t = g ++ [1]) T h T h' := by rw [e]; exact Only.upd w hob tb
  have off3 : ∀ i, Off (fun t => t = g ++ [1]) (g ++ [3, i]) := fun i => off_eq (by simp)
  refine hk h' o1 ⟨(o1.k.at x.hp x.tp (ne_tag (by simp))).1, x.tp, ⟨?_, x.st.2⟩, x.ac.kp o1.k (ne_tag (by simp)), fun i hi => ?_⟩
  · rw [seqF_spl (fun i _ => strC_len _ _) hs (by rw [Array.length_toList]; omega)] at hrow
    have : seqF H.n (fset (fun i => strC (H.ss i) (Y i)) s (spl (strC (H.ss s) (Y s)) off v.cells.toList)) = seqF (H.put s X').n fun i => strC ((H.put s X').ss i) (if i = s then y' else Y i) := by
      refine seqF_congr fun i hi => ?_
      simp only [fset, Hall.put, sput]
      by_cases his : i = s
      · subst his; simp only [if_true]; exact hc
      · simp only [if_neg his]
    rw [this] at hrow
    exact hrow
  · simp only [Hall.put, sput]
    by_cases his : i = s
    · subst his; simp only [if_true]; exact hr.kp o1.k (off3 _) (by simp)
    · simp only [if_neg his]; exact (x.sr i hi).kp o1.k (off3 _) (by simp)
theorem lc_ne (g : Tag) (gg : Gd g) (s : Tag) : ¬ (lc = g ++ s) := by obtain ⟨k, r, rfl⟩ := gg; simp
theorem lc_U02 {g : Tag} (gg : Gd g) : ¬ U02 g lc := by rintro (h | h) <;> exact lc_ne g gg _ h
theorem U02.pre {g t : Tag} (h : U02 g t) : Den.pre g t := h.up.pre
/-- A local variable is written. -/
theorem Only.lst {T : Tags} {h : Heap} {b : Nat} {o o' : Obj} (w : Wf T h) (e : h b = some o ∧ T b = lc) : Only (fun t => t = lc) T h T (upd h b o') := Only.upd w e.1 e.2
theorem HallR.lst {T : Tags} {h : Heap} {g : Tag} {p : Nat} {H : Hall} (x : HallR T h g p H) (gg : Gd g) {b : Nat} {o o' : Obj} (w : Wf T h) (e : h b = some o ∧ T b = lc) : HallR T (upd h b o') g p H :=
  x.kp (Only.lst w e).k gg.off (by simp)
theorem look_ok (who : Int) {T : Tags} {h : Heap} {g : Tag} {p : Nat} {H : Hall} (w : Wf T h) (gg : Gd g) (x : HallR T h g p H) (hl : H.acts.length < 1000000) {K : Value → Heap → Prop}
    (hk : ∀ T' h', Only (pre g) T h T' h' → HallR T' h' g p (H.look who) → K (.agg (tmC H.t).toArray) h') : callM P fn_hall_Hall_Look #[ptr p, .int .i64 who] h K := by
  apply e_hall_Hall_Look
  unfold d_hall_Hall_Look
  rw [zcTime]
  refine nw_tag w lc fun v1 T1 h1 n1 o1 t1 c1 => ?_
  obtain ⟨sv, av, Y, x1⟩ := x.up o1 (Off.non _) (not_non _)
  have b1 : h1 v1 = _ ∧ T1 v1 = lc := ⟨c1, t1⟩
  refine did_ok who 3 0 o1.wf gg x1 hl fun T2 h2 av2 o2 x2 => ?_
  have b1 := o2.see b1 (lc_U02 gg)
  have c1 := b1.1
  have cp := x2.hp
  simp only [hallC] at cp
  unfold d_hall_Hall_Look_1
  simp -implicitDefEqProofs [ld_at c1, cel_of c1, stm_at c1, ld_at cp, cel_of cp, stm_at cp, stm_upd, ld_same, cel_same, over]
  exact hk T2 _ (((o1.mono fun _ => non_up _).up o2 fun _ => U02.pre).own n1 b1.1) (HallR.lst ⟨sv, av2, Y, x2⟩ gg o2.wf b1)
end Go.Proofs.Ytcnphhhcknhhaaa

namespace Go.Proofs.Ytcnphhhcknhhaaa
open Go Go.Den Go.MapKept
set_option linter.unusedSimpArgs false
set_option linter.unusedVariables false
set_option maxRecDepth 20000
theorem epoch_ok (who : Int) {s : Nat} {T : Tags} {h : Heap} {g : Tag} {p : Nat} {H : Hall} (w : Wf T h) (gg : Gd g) (x : HallR T h g p H) (hs : s < H.n) (h8 : H.n ≤ 8) (hl : H.acts.length < 1000000) {K : Value → Heap → Prop}
    (hk : ∀ T' h', Only (pre g) T h T' h' → HallR T' h' g p (H.epoch who s) → K (.int .u64 (H.ss s).v) h') : callM P fn_hall_Hall_Epoch #[ptr p, .int .i64 who, .int .i64 s] h K := by
  apply e_hall_Hall_Epoch
  unfold d_hall_Hall_Epoch
  refine place_ok s 2 (by omega) ?_
  unfold d_hall_Hall_Epoch_1
  obtain ⟨sv, av, Y, x⟩ := x
  refine did_ok who 3 _ w gg x hl fun T2 h2 av2 o2 x2 => ?_
  have cp := x2.hp
  simp only [hallC] at cp
  obtain ⟨b, ob, rb, hb, tb, ia, l1, l2, l3, l4, l5, l6⟩ := x2.lds (s := s) (k := .i64) hs
  unfold d_hall_Hall_Epoch_2
  simp -implicitDefEqProofs [ld_at cp, cel_of cp, stm_at cp, stm_upd, ld_same, cel_same, over, ia, l2]
  refine value_ok _ _ fun h3 e3 => ?_
  have o3 : Only (pre g) T2 h2 T2 h3 := Only.of_ext o2.wf e3
  exact hk T2 h3 ((o2.mono fun _ => U02.pre).trans o3) (HallR.up ⟨sv, av2, Y, x2⟩ (Only.of_ext (U := non) o2.wf e3) (Off.non _) (not_non _))
theorem zcMap : zc P ty_omap_Map_string_doorman_book_Entry = some #[.slice none 0 0, .slice none 0 0] := by kernel_rfl
theorem snap_ok (who : Int) {s : Nat} {T : Tags} {h : Heap} {g : Tag} {p : Nat} {H : Hall} (w : Wf T h) (gg : Gd g) (x : HallR T h g p H) (hs : s < H.n) (h8 : H.n ≤ 8) (hl : H.acts.length < 1000000) {K : Value → Heap → Prop}
    (hk : ∀ T' h' a b, Only (pre g) T h T' h' → HallR T' h' g p (H.snap who s) → BookR (fz T' h') a b (H.ss s).snap → K (.agg #[a, b]) h') : callM P fn_hall_Hall_Snap #[ptr p, .int .i64 who, .int .i64 s] h K := by
  apply e_hall_Hall_Snap
  unfold d_hall_Hall_Snap
  rw [zcMap]
  refine nw_tag w lc fun v1 T1 h1 n1 o1 t1 c1 => ?_
  obtain ⟨sv, av, Y, x1⟩ := x.up o1 (Off.non _) (not_non _)
  have b1 : h1 v1 = _ ∧ T1 v1 = lc := ⟨c1, t1⟩
  refine place_ok s 3 (by omega) ?_
  unfold d_hall_Hall_Snap_1
  refine did_ok who 3 _ o1.wf gg x1 hl fun T2 h2 av2 o2 x2 => ?_
  have b1 := o2.see b1 (lc_U02 gg)
  have c1 := b1.1
  have cp := x2.hp
  simp only [hallC] at cp
  obtain ⟨b, ob, rb, hb, tb, ia, l1, l2, l3, l4, l5, l6⟩ := x2.lds (s := s) (k := .i64) hs
  have hbk := (x2.sr s hs).1
  have u1 := hbk.1.one
  have u2 := hbk.2.one
  unfold d_hall_Hall_Snap_2
  simp -implicitDefEqProofs [ld_at c1, cel_of c1, stm_at c1, ld_at cp, cel_of cp, stm_at cp, stm_upd, ld_same, cel_same, over, ia, l3, u1.1, u2.1]
  exact hk T2 _ _ _ (((o1.mono fun _ => non_up _).up o2 fun _ => U02.pre).own n1 b1.1) (HallR.lst ⟨sv, av2, Y, x2⟩ gg o2.wf b1) (hbk.ext ((Only.lst o2.wf b1).ext (by simp)))
theorem read_ok (who : Int) {s : Nat} {T : Tags} {h : Heap} {g : Tag} {p : Nat} {H : Hall} (w : Wf T h) (gg : Gd g) (x : HallR T h g p H) (hs : s < H.n) (h8 : H.n ≤ 8) (hl : H.acts.length < 1000000) {K : Value → Heap → Prop}
    (hk : ∀ T' h' a b, Only (pre g) T h T' h' → HallR T' h' g p (H.read who s) → BookR (fz T' h') a b (H.ss s).book → K (.agg #[a, b]) h') : callM P fn_hall_Hall_Read #[ptr p, .int .i64 who, .int .i64 s] h K := by
  apply e_hall_Hall_Read
  unfold d_hall_Hall_Read
  rw [zcMap]
  refine nw_tag w lc fun v1 T1 h1 n1 o1 t1 c1 => ?_
  obtain ⟨sv, av, Y, x1⟩ := x.up o1 (Off.non _) (not_non _)
  have b1 : h1 v1 = _ ∧ T1 v1 = lc := ⟨c1, t1⟩
  refine place_ok s 4 (by omega) ?_
  unfold d_hall_Hall_Read_1
  refine did_ok who 1 _ o1.wf gg x1 hl fun T2 h2 av2 o2 x2 => ?_
  have b1 := o2.see b1 (lc_U02 gg)
  have c1 := b1.1
  have cp := x2.hp
  simp only [hallC] at cp
  obtain ⟨b, ob, rb, hb, tb, ia, l1, l2, l3, l4, l5, l6⟩ := x2.lds (s := s) (k := .i64) hs
  have hbk := (x2.sr s hs).2.1
  have u1 := hbk.1.one
  have u2 := hbk.2.one
  unfold d_hall_Hall_Read_2
  simp -implicitDefEqProofs [ld_at c1, cel_of c1, stm_at c1, ld_at cp, cel_of cp, stm_at cp, stm_upd, ld_same, cel_same, over, ia, l4, u1.1, u2.1]
  exact hk T2 _ _ _ (((o1.mono fun _ => non_up _).up o2 fun _ => U02.pre).own n1 b1.1) (HallR.lst ⟨sv, av2, Y, x2⟩ gg o2.wf b1) (hbk.ext ((Only.lst o2.wf b1).ext (by simp)))
theorem eq_pre {g s t : Tag} (h : t = g ++ s) : pre g t := h ▸ pre_app _ _
theorem begin2_ok (who : Int) {s : Nat} {T : Tags} {h : Heap} {g : Tag} {p : Nat} {H : Hall} (w : Wf T h) (gg : Gd g) (x : HallR T h g p H) (hs : s < H.n) (h8 : H.n ≤ 8) (hl : H.acts.length < 1000000) (hv : U64 (H.ss s).v) (hb : U64 (H.ss s).bound) {K : Value → Heap → Prop}
    (hk : ∀ T' h', Only (pre g) T h T' h' → HallR T' h' g p (H.begin who s) → K (.tuple #[]) h') : callM P fn_hall_Hall_Begin #[ptr p, .int .i64 who, .int .i64 s] h K := by
  apply e_hall_Hall_Begin
  unfold d_hall_Hall_Begin
  refine place_ok s 2 (by omega) ?_
  unfold d_hall_Hall_Begin_1
  obtain ⟨sv, av, Y, x⟩ := x
  refine did_ok who 4 _ w gg x hl fun T2 h2 av2 o2 x2 => ?_
  have bp : h2 p = _ ∧ T2 p = _ := ⟨x2.hp, x2.tp⟩
  simp only [hallC] at bp
  have cp := bp.1
  obtain ⟨b, ob, rb, hb1, tb, ia, l1, l2, l3, l4, l5, l6⟩ := x2.lds (s := s) (k := .i64) hs
  unfold d_hall_Hall_Begin_2
  simp -implicitDefEqProofs [ld_at cp, cel_of cp, stm_at cp, stm_upd, ld_same, cel_same, over, ia, l2]
  refine begin_ok _ _ hv hb fun h3 e3 => ?_
  have o3 : Only non T2 h2 T2 h3 := Only.of_ext o2.wf e3
  have bp := o3.see bp (not_non _)
  have cp := bp.1
  have x3 : HallX T2 h3 g p (H.did who 4 (4 * s + 2)) sv av2 Y := ⟨e3 _ _ x2.hp, x2.tp, x2.st.kp o3.k (not_non _), x2.ac.kp o3.k (not_non _), fun i hi => (x2.sr i hi).kp o3.k (Off.non _) (not_non _)⟩
  unfold d_hall_Hall_Begin_3
  simp -implicitDefEqProofs [ld_at cp, cel_of cp, stm_at cp, stm_upd, ld_same, cel_same, over, ia]
  refine x3.stw o3.wf (off := 1) (X' := { H.ss s with v := bgn (H.ss s).v (H.ss s).bound }) (y' := Y s) hs rb rfl (by rfl) (by omega) (by simp [cellC, Hall.did]) (by simp [spl, strC, cellC, Hall.did]) (x3.sr s hs) fun h4 o4 x4 => ?_
  exact hk T2 h4 (((o2.mono fun _ => U02.pre).up o3 non_up).up o4 fun t => eq_pre) ⟨sv, av2, _, x4⟩
theorem free_ok {s : Nat} {T : Tags} {h : Heap} {g : Tag} {p : Nat} {H : Hall} (x : HallR T h g p H) (hs : s < H.n) {K : Value → Heap → Prop}
    (hk : ∀ h', Ext h h' → K (.bool (decide ((H.ss s).who = 0))) h') : callM P fn_hall_Hall_Free #[ptr p, .int .i64 s] h K := by
  apply e_hall_Hall_Free
  unfold d_hall_Hall_Free
  obtain ⟨sv, av, Y, x2⟩ := x
  have cp := x2.hp
  simp only [hallC] at cp
  obtain ⟨b, ob, rb, hb1, tb, ia, l1, l2, l3, l4, l5, l6⟩ := x2.lds (s := s) (k := .i64) hs
  simp -implicitDefEqProofs [ld_at cp, cel_of cp, stm_at cp, stm_upd, ld_same, cel_same, over, ia, l1]
  exact lfree_ok _ hk
theorem hstripe_ok (u : ByteArray) (hu : u.size ≤ maxLen) {T : Tags} {h : Heap} {g : Tag} {p : Nat} {H : Hall} (x : HallR T h g p H) (hc : H.c.stripes ≤ 8) {K : Value → Heap → Prop}
    (hk : K (.int .i64 (stripeOf u H.c.stripes)) h) : callM P fn_hall_Hall_Stripe #[ptr p, .string u] h K := by
  apply e_hall_Hall_Stripe
  unfold d_hall_Hall_Stripe
  obtain ⟨sv, av, Y, x2⟩ := x
  have cp := x2.hp
  simp only [hallC] at cp
  simp -implicitDefEqProofs [ld_at cp, cel_of cp, stm_at cp, stm_upd, ld_same, cel_same, over]
  exact stripe_ok u _ (by omega) hu hk
theorem config_ok {T : Tags} {h : Heap} {g : Tag} {p : Nat} {H : Hall} (x : HallR T h g p H) {K : Value → Heap → Prop}
    (hk : ∀ h', Ext h h' → K (.agg (cfgC H.c).toArray) h') : callM P fn_hall_Hall_Config #[ptr p] h K := by
  apply e_hall_Hall_Config
  unfold d_hall_Hall_Config
  obtain ⟨sv, av, Y, x2⟩ := x
  rw [zcCfg]
  simp only [nwM_s]
  intro v1 n1
  have hne := ne_fresh x2.hp n1
  have cp := x2.hp
  simp only [hallC] at cp
  simp -implicitDefEqProofs [ld_at cp, cel_of cp, stm_at cp, stm_skip hne, stm_skip (Ne.symm hne), ld_skip hne, ld_skip (Ne.symm hne), cel_skip hne, cel_skip (Ne.symm hne), stm_upd, ld_same, cel_same, over]
  exact kv (hk _ (Ext.upd n1 _)) rfl
theorem lock_ok (who : Int) {s : Nat} {T : Tags} {h : Heap} {g : Tag} {p : Nat} {H : Hall} (w : Wf T h) (gg : Gd g) (x : HallR T h g p H) (hs : s < H.n) (h8 : H.n ≤ 8) (hl : H.acts.length < 1000000) (hw : -1000 ≤ who ∧ who ≤ 1000000) {K : Value → Heap → Prop}
    (hk : ∀ T' h', Only (pre g) T h T' h' → HallR T' h' g p (H.lock who s) → K (.bool (canTake (H.ss s).who who)) h') : callM P fn_hall_Hall_Lock #[ptr p, .int .i64 who, .int .i64 s] h K := by
  apply e_hall_Hall_Lock
  unfold d_hall_Hall_Lock
  obtain ⟨sv, av, Y, x⟩ := x
  have cp := x.hp
  simp only [hallC] at cp
  obtain ⟨b, ob, rb, hb1, tb, ia, l1, l2, l3, l4, l5, l6⟩ := x.lds (s := s) (k := .i64) hs
  simp -implicitDefEqProofs [ld_at cp, cel_of cp, stm_at cp, stm_upd, ld_same, cel_same, over, ia, l1]
  refine ltake_ok _ _ hw fun h1 e1 => ?_
  have o1 : Only non T h T h1 := Only.of_ext w e1
  unfold d_hall_Hall_Lock_1
  simp only [exV_0, exV_1, ov_s, zcLatch]
  refine nw_tag o1.wf lc fun v1 T2 h2 n2 o2 t2 c2 => ?_
  simp -implicitDefEqProofs [ld_at c2, cel_of c2, stm_at c2, stm_upd, ld_same, cel_same, over]
  have n0 : h v1 = none := o1.fresh n2
  have o0 := (o1.trans o2).own (o' := .cells #[.int .i64 (if canTake (H.ss s).who who then who + 1 else (H.ss s).who)] ty_latch_Latch (0, 0)) n0 c2
  have x2 : HallX T2 (upd h2 v1 (.cells #[.int .i64 (if canTake (H.ss s).who who then who + 1 else (H.ss s).who)] ty_latch_Latch (0, 0))) g p H sv av Y :=
    ⟨(o0.k.at x.hp x.tp (not_non _)).1, (o0.k.at x.hp x.tp (not_non _)).2, x.st.kp o0.k (not_non _), x.ac.kp o0.k (not_non _), fun i hi => (x.sr i hi).kp o0.k (Off.non _) (not_non _)⟩
  rw [seqM_eq]
  unfold d_hall_Hall_Lock_2
  cases hc : canTake (H.ss s).who who with
  | false =>
    simp only [hc] at x2 o0
    unfold d_hall_Hall_Lock_6
    simp -implicitDefEqProofs
    exact kb (hk T2 _ (o0.mono non_up) (by simp only [Hall.lock, hc]; exact ⟨sv, av, Y, x2⟩)) hc
  | true =>
    simp only [hc, if_true] at x2 o0 ⊢
    have b1 : (upd h2 v1 (.cells #[.int .i64 (who + 1)] ty_latch_Latch (0, 0))) v1 = _ ∧ T2 v1 = lc := ⟨upd_same' _ _ _, t2⟩
    simp only [cd_b, true_implies]
    refine ⟨?_, fun hx => by cases hx⟩
    unfold d_hall_Hall_Lock_3
    refine place_ok s 1 (by omega) ?_
    unfold d_hall_Hall_Lock_4
    refine did_ok who 5 _ o0.wf gg x2 hl fun T3 h3 av3 o3 x3 => ?_
    have b1 := o3.see b1 (lc_U02 gg)
    have c1 := b1.1
    have cp := x3.hp
    simp only [hallC] at cp
    obtain ⟨b, ob, rb, hb1, tb, ia, l1, l2, l3, l4, l5, l6⟩ := x3.lds (s := s) (k := .i64) hs
    unfold d_hall_Hall_Lock_5
    simp -implicitDefEqProofs [ld_at cp, cel_of cp, stm_at cp, ld_at c1, cel_of c1, stm_at c1, stm_upd, ld_same, cel_same, over, ia]
    refine x3.stw o3.wf (off := 0) (X' := { H.ss s with who := who + 1 }) (y' := Y s) hs rb rfl (by rfl) (by omega) (by simp) (by simp [spl, strC, Hall.did]) (x3.sr s hs) fun h4 o4 x4 => ?_
    exact kb (hk T3 h4 (((o0.mono non_up).up o3 fun _ => U02.pre).up o4 fun t => eq_pre) (by simp only [Hall.lock, hc]; exact ⟨sv, av3, _, x4⟩)) hc
theorem unlock_ok (who : Int) {s : Nat} {T : Tags} {h : Heap} {g : Tag} {p : Nat} {H : Hall} (w : Wf T h) (gg : Gd g) (x : HallR T h g p H) (hs : s < H.n) (h8 : H.n ≤ 8) (hl : H.acts.length < 1000000) (hw : -1000000 ≤ (H.ss s).who ∧ (H.ss s).who ≤ 1000000) {K : Value → Heap → Prop}
    (hk : ∀ T' h', Only (pre g) T h T' h' → HallR T' h' g p (H.unlock who s) → K (.bool (canGive (H.ss s).who who)) h') : callM P fn_hall_Hall_Unlock #[ptr p, .int .i64 who, .int .i64 s] h K := by
  apply e_hall_Hall_Unlock
  unfold d_hall_Hall_Unlock
  obtain ⟨sv, av, Y, x⟩ := x
  have cp := x.hp
  simp only [hallC] at cp
  obtain ⟨b, ob, rb, hb1, tb, ia, l1, l2, l3, l4, l5, l6⟩ := x.lds (s := s) (k := .i64) hs
  simp -implicitDefEqProofs [ld_at cp, cel_of cp, stm_at cp, stm_upd, ld_same, cel_same, over, ia, l1]
  refine lgive_ok _ _ hw fun h1 e1 => ?_
  have o1 : Only non T h T h1 := Only.of_ext w e1
  unfold d_hall_Hall_Unlock_1
  simp only [exV_0, exV_1, ov_s, zcLatch]
  refine nw_tag o1.wf lc fun v1 T2 h2 n2 o2 t2 c2 => ?_
  simp -implicitDefEqProofs [ld_at c2, cel_of c2, stm_at c2, stm_upd, ld_same, cel_same, over]
  have n0 : h v1 = none := o1.fresh n2
  have o0 := (o1.trans o2).own (o' := .cells #[.int .i64 (if canGive (H.ss s).who who then 0 else (H.ss s).who)] ty_latch_Latch (0, 0)) n0 c2
  have x2 : HallX T2 (upd h2 v1 (.cells #[.int .i64 (if canGive (H.ss s).who who then 0 else (H.ss s).who)] ty_latch_Latch (0, 0))) g p H sv av Y :=
    ⟨(o0.k.at x.hp x.tp (not_non _)).1, (o0.k.at x.hp x.tp (not_non _)).2, x.st.kp o0.k (not_non _), x.ac.kp o0.k (not_non _), fun i hi => (x.sr i hi).kp o0.k (Off.non _) (not_non _)⟩
  rw [seqM_eq]
  unfold d_hall_Hall_Unlock_2
  cases hc : canGive (H.ss s).who who with
  | false =>
    simp only [hc] at x2 o0
    unfold d_hall_Hall_Unlock_6
    simp -implicitDefEqProofs
    exact kb (hk T2 _ (o0.mono non_up) (by simp only [Hall.unlock, hc]; exact ⟨sv, av, Y, x2⟩)) hc
  | true =>
    simp only [hc, if_true] at x2 o0 ⊢
    have b1 : (upd h2 v1 (.cells #[.int .i64 0] ty_latch_Latch (0, 0))) v1 = _ ∧ T2 v1 = lc := ⟨upd_same' _ _ _, t2⟩
    simp only [cd_b, true_implies]
    refine ⟨?_, fun hx => by cases hx⟩
    unfold d_hall_Hall_Unlock_3
    refine place_ok s 1 (by omega) ?_
    unfold d_hall_Hall_Unlock_4
    refine did_ok who 6 _ o0.wf gg x2 hl fun T3 h3 av3 o3 x3 => ?_
    have b1 := o3.see b1 (lc_U02 gg)
    have c1 := b1.1
    have cp := x3.hp
    simp only [hallC] at cp
    obtain ⟨b, ob, rb, hb1, tb, ia, l1, l2, l3, l4, l5, l6⟩ := x3.lds (s := s) (k := .i64) hs
    unfold d_hall_Hall_Unlock_5
    simp -implicitDefEqProofs [ld_at cp, cel_of cp, stm_at cp, ld_at c1, cel_of c1, stm_at c1, stm_upd, ld_same, cel_same, over, ia]
    refine x3.stw o3.wf (off := 0) (X' := { H.ss s with who := 0 }) (y' := Y s) hs rb rfl (by rfl) (by omega) (by simp) (by simp [spl, strC, Hall.did]) (x3.sr s hs) fun h4 o4 x4 => ?_
    exact kb (hk T3 h4 (((o0.mono non_up).up o3 fun _ => U02.pre).up o4 fun t => eq_pre) (by simp only [Hall.unlock, hc]; exact ⟨sv, av3, _, x4⟩)) hc
theorem acts_ok {T : Tags} {h : Heap} {g : Tag} {p : Nat} {H : Hall} (w : Wf T h) (x : HallR T h g p H) (hl : H.acts.length < 1000000) {K : Value → Heap → Prop}
    (hk' : ∀ v h', Ext h h' → Sl 3 ActR (fz T h') v H.acts → K v h') : callM P fn_hall_Hall_Acts #[ptr p] h K := by
  apply e_hall_Hall_Acts
  unfold d_hall_Hall_Acts
  obtain ⟨sv, av, Y, x⟩ := x
  refine bs_none bsAct fun v h1 e1 r1 _ f1 => ?_
  have o1 : Only non T h T h1 := Only.of_ext w e1
  have cp := e1 _ _ x.hp
  simp only [hallC] at cp
  simp -implicitDefEqProofs [ld_at cp, cel_of cp, stm_at cp, stm_upd, ld_same, cel_same, over]
  have ra := (x.ac.kp o1.k (not_non _)).1
  have sa : Sl 3 ActR h1 av H.acts := Row.slE (enc := actC) (fun _ => rfl) (fun _ => rfl) ra
  exact copy_intro (enc := actC) (R := ActR) unSlAct apAct (by omega) w e1 r1 f1 id (fun _ _ => rfl) (fun _ => rfl) sa (by simp [actC]) (by unfold maxLen; omega) (by omega) hk'
end Go.Proofs.Ytcnphhhcknhhaaa

namespace Go.Proofs.Ytcnphhhcknhhaaa
open Go Go.Den Go.MapKept
set_option linter.unusedSimpArgs false
set_option linter.unusedVariables false
set_option maxRecDepth 20000
theorem late_ok (a b : Int) {h : Heap} {K : Value → Heap → Prop} (hk : K (.bool (late a b)) h) : callM P fn_tick_Late #[.int .u64 a, .int .u64 b] h K := by
  apply e_tick_Late
  unfold d_tick_Late
  simpa [late] using hk
theorem better_ok (a b : Sess) {h : Heap} {K : Value → Heap → Prop} (hk : ∀ h', Ext h h' → K (.bool (better a b)) h') : callM P fn_aggr_Better #[.agg (sessC a).toArray, .agg (sessC b).toArray] h K := by
  apply e_aggr_Better
  unfold d_aggr_Better
  refine nw_agg fun v1 h1 n1 e1 c1 => ?_
  refine nw_agg fun v3 h2 n3 e3 c3 => ?_
  have c1 := e3 _ _ c1
  simp only [sessC] at c1 c3
  simp +contextual -implicitDefEqProofs [ld_at c1, cel_of c1, stm_at c1, ld_at c3, cel_of c3, stm_at c3, stm_upd, ld_same, cel_same, over]
  exact kb (hk _ (e1.trans e3)) (by simp [better])
theorem zcSess : zc P ty_api_Session = some #[.int .i64 0, .int .i64 0, .int .i64 0, .int .u64 0] := by kernel_rfl
theorem zcPres : zc P ty_api_Presence = some #[.int .i64 0, .int .i64 0, .int .i64 0] := by kernel_rfl
theorem zcInt : zc P ty_int = some #[.int .i64 0] := by kernel_rfl
def liveS (l : List Sess) (now : Int) : List Sess := l.filter fun s => !late now s.un
def liveX (l : List Sess) (now : Int) : List (Array Value) := (liveS l now).map fun s => #[.agg (sessC s).toArray]
theorem filter_at {α : Type} (p : α → Bool) : ∀ (l : List α) (k : Nat) (hk : k < l.length), p l[k] = true → (l.filter p)[((l.take k).filter p).length]? = some l[k]
  | x :: l, 0, _, h => by simp only [List.getElem_cons_zero] at h; simp [List.filter_cons, h]
  | x :: l, k + 1, hk, h => by
    simp only [List.getElem_cons_succ] at h ⊢
    have := filter_at p l k (by simpa using hk) h
    rw [List.take_succ_cons, List.filter_cons, List.filter_cons]
    split
    · simpa using this
    · exact this
theorem filter_take {α : Type} (p : α → Bool) (l : List α) (k : Nat) (hk : k < l.length) : ((l.take (k + 1)).filter p).length = ((l.take k).filter p).length + if p l[k] then 1 else 0 := by
  rw [List.take_succ_eq_append_getElem hk, List.filter_append, List.length_append]
  congr 1
  simp -implicitDefEqProofs [List.filter_cons]
  split <;> simp
theorem live_it {hA : Heap} {a b : Nat} {v : Value} {now : Int} {l : List Sess} (ca : hA a = some (.cells #[v] ty_Sl_api_Session (0, 0))) (cb : hA b = some (.cells #[.int .u64 now] ty_uint64 (0, 0))) (x : Sl 4 SessR hA v l) :
    It P fn_aggr_Live_c1 #[ptr a, ptr b] (liveX l now) hA := by
  intro yv I S h K hx hs h0 hround hK1 hK2
  apply e_aggr_Live_c1
  unfold d_aggr_Live_c1
  have ca0 := hx _ _ h0 _ _ ca
  have hlen := x.len
  simp -implicitDefEqProofs [ld_at ca0, cel_of ca0, stm_at ca0, stm_upd, ld_same, cel_same, over, hlen]
  refine loop_on [0, 2, 6, 7] (fun s h' => ∃ k : Nat, k ≤ l.length ∧ s 8 = .int .i64 k ∧ I ((l.take k).filter fun s => !late now s.un).length h') (fun s _ => (l.length - num (s 8)).toNat) ⟨0, by omega, rfl, by simpa using h0⟩ ?_
  rintro s h1 hf ⟨k, hk, s8, hI⟩
  have s0 : s 0 = yv := by simpa using hf 0 (by simp)
  have s2 : s 2 = ptr b := by simpa using hf 2 (by simp)
  have s6 : s 6 = v := by simpa using hf 6 (by simp)
  have s7 : s 7 = .int .i64 l.length := by simpa using hf 7 (by simp)
  unfold d_aggr_Live_c1_1
  simp only [s8, s7, bin_lss, ov_s, cd_b]
  refine ⟨fun hc => ?_, fun hc => ?_⟩
  rotate_left
  · have : k = l.length := by have : ¬ ((k : Int) < l.length) := by simpa using hc
                              omega
    subst this
    simp -implicitDefEqProofs
    rw [List.take_length] at hI
    exact hK1 _ _ (by simpa [liveX, liveS] using hI)
  have hlt : k < l.length := by have : ((k : Int) < l.length) := by simpa using hc
                                omega
  have x1 := x.ext (R := SessR) (@SessR.ext) (hx _ _ hI)
  obtain ⟨eb, eo, c, i1, i2, i3⟩ := x1.at (k := .i64) (i := k) (by omega) (by omega)
  simp only [Int.toNat_natCast] at i3
  have hmx := x.max
  have hw : IntKind.i64.wrap ((k : Int) + 1) = k + 1 := wrap64_id (by omega) (by omega)
  unfold d_aggr_Live_c1_2
  simp only [s6, s8, i1, ov_s, ldV_n i2, zcSess]
  rw [show c = sessC l[k] from i3]
  refine nw_st rfl rfl (by simp [sessC]) fun v9 h2 n2 e2 c2 => ?_
  simp only [sessC, cells_agg] at c2
  have hI2 := hs _ _ _ hI e2
  have cb2 := hx _ _ hI2 _ _ cb
  simp -implicitDefEqProofs [s2, ld_at c2, cel_of c2, stm_at c2, ld_at cb2, cel_of cb2, stm_at cb2, stm_upd, ld_same, cel_same, over]
  refine late_ok _ _ ?_
  unfold d_aggr_Live_c1_3
  cases hl : late now l[k].un with
  | true =>
    simp -implicitDefEqProofs
    unfold d_aggr_Live_c1_5
    simp -implicitDefEqProofs [s8, hw, s0, s2, s6, s7]
    refine ⟨⟨k + 1, by omega, by simp, ?_⟩, by omega⟩
    rw [filter_take _ _ _ hlt]
    simpa [hl] using hI2
  | false =>
    have hat := filter_at (fun s => !late now s.un) l k hlt (by simp [hl])
    obtain ⟨hj, hat⟩ := List.getElem?_eq_some_iff.1 hat
    have hj' : ((l.take k).filter fun s => !late now s.un).length < (liveX l now).length := by simpa [liveX, liveS] using hj
    have hx' : (liveX l now)[((l.take k).filter fun s => !late now s.un).length] = #[.agg (sessC l[k]).toArray] := by simp [liveX, liveS, hat]
    simp -implicitDefEqProofs [s0, ld_at c2, cel_of c2, stm_at c2, stm_upd, ld_same, cel_same, over]
    have hr := hround _ hj' h2
    rw [hx'] at hr
    refine hr _ hI2 (fun h3 hI3 => ?_) (fun h3 hS => ?_)
    · simp -implicitDefEqProofs
      unfold d_aggr_Live_c1_5
      simp -implicitDefEqProofs [s8, hw, s0, s2, s6, s7]
      refine ⟨⟨k + 1, by omega, by simp, ?_⟩, by omega⟩
      rw [filter_take _ _ _ hlt]
      simpa [hl] using hI3
    · simp -implicitDefEqProofs
      unfold d_aggr_Live_c1_4
      simp -implicitDefEqProofs
      exact hK2 _ _ hS
end Go.Proofs.Ytcnphhhcknhhaaa

namespace Go.Proofs.Ytcnphhhcknhhaaa
open Go Go.Den Go.MapKept
set_option linter.unusedSimpArgs false
set_option linter.unusedVariables false
set_option maxRecDepth 20000
theorem tgPres : tagg P ty_api_Presence = some (some 3) := by kernel_rfl
def stepL (x : Sess × Nat) (s : Sess) : Sess × Nat := (if x.2 = 0 || better s x.1 then s else x.1, x.2 + 1)
def accL (l : List Sess) (now : Int) (i : Nat) : Sess × Nat := ((liveS l now).take i).foldl stepL (⟨0, 0, 0, 0⟩, 0)
theorem accL_s {l : List Sess} {now : Int} {i : Nat} (hi : i < (liveS l now).length) : accL l now (i + 1) = stepL (accL l now i) (liveS l now)[i] := by
  unfold accL
  rw [List.take_succ_eq_append_getElem hi, List.foldl_append]; rfl
theorem accL_all (l : List Sess) (now : Int) : accL l now (liveS l now).length = ofAcc l now := by
  unfold accL ofAcc liveS
  rw [List.take_length, List.foldl_filter]
  congr 1
  funext x s
  simp only [ofStep, stepL]
  cases late now s.un <;> simp
theorem accL_n (l : List Sess) (now : Int) : ∀ i, i ≤ (liveS l now).length → (accL l now i).2 = i
  | 0, _ => rfl
  | i + 1, h => by rw [accL_s (by omega)]; simp only [stepL]; rw [accL_n l now i (by omega)]
def OfJ (hA h : Heap) (v1 v3 v5 : Nat) (l : List Sess) (now : Int) (i : Nat) (h' : Heap) : Prop := Ext hA h' ∧ Ext h h' ∧ h' v1 = some (.cells #[.int .i64 0, .int .i64 0, .int .i64 0] ty_api_Presence (0, 0)) ∧
  h' v3 = some (.cells (sessC (accL l now i).1).toArray ty_api_Session (0, 0)) ∧ h' v5 = some (.cells #[.int .i64 i] ty_int (0, 0))
def OfA (hA h : Heap) (v1 v3 v5 : Nat) (l : List Sess) (now : Int) (i : Nat) (s : Sess) (l' b' : Nat) (m2 : List Nat) (s2 : Env) (h3 : Heap) : Prop :=
  m2 = [] ∧ ∃ sb, s2 7 = ptr sb ∧ s2 5 = ptr v3 ∧ s2 6 = ptr v5 ∧ sb ≠ l' ∧ sb ≠ b' ∧ h3 sb = some (.cells (sessC s).toArray ty_api_Session (0, 0)) ∧ sb ≠ v3 ∧ sb ≠ v5 ∧ OfJ hA h v1 v3 v5 l now i h3
theorem aggOf_ok (l : List Sess) (now : Int) {h : Heap} {v : Value} (x : Sl 4 SessR h v l) (hl : l.length < 1000000) {K : Value → Heap → Prop} (hk : ∀ h', Ext h h' → K (.agg (presC (presOf l now)).toArray) h') : callM P fn_aggr_Of #[v, .int .u64 now] h K := by
  apply e_aggr_Of
  unfold d_aggr_Of
  rw [zcPres, zcSess, zcInt]
  refine nw_tag (wf_nil h) lc fun v1 T1 h1 n1 o1 t1 c1 => ?_
  refine nw_tag o1.wf lc fun v3 T3 h3 n3 o3 t3 c3 => ?_
  refine nw_tag o3.wf lc fun v5 T5 h5 n5 o5 t5 c5 => ?_
  have b1 := o5.see (o3.see ⟨c1, t1⟩ (not_non _)) (not_non _)
  have b3 := o5.see ⟨c3, t3⟩ (not_non _)
  have ne13 : v1 ≠ v3 := ne_fresh c1 n3
  have ne15 : v1 ≠ v5 := ne_fresh (o3.see ⟨c1, t1⟩ (not_non _)).1 n5
  have ne35 : v3 ≠ v5 := ne_fresh c3 n5
  have o0 : Only non (fun _ => []) h T5 h5 := (o1.trans o3).trans o5
  have e0 : Ext h h5 := fun b o e => o0.kp b o e (not_non _)
  have xF : Sl 4 SessR (fz T5 h5) v l := x.ext (R := SessR) (@SessR.ext) (by have := o0.ext (not_non _); rwa [fz_nil] at this)
  simp -implicitDefEqProofs [ld_at c5, cel_of c5, stm_at c5, stm_upd, ld_same, cel_same, over]
  have ec5 : upd h5 v5 (.cells #[.int .i64 0] ty_int (0, 0)) = h5 := (upd_of (fun _ _ => rfl) c5).symm
  rw [ec5, seqM_eq]
  unfold d_aggr_Of_1
  apply e_aggr_Live
  unfold d_aggr_Live
  simp only [xF.one.2]
  refine nw_tag o5.wf [] fun a T6 h6 n6 o6 t6 c6 => ?_
  refine nw_tag o6.wf [] fun b T7 h7 n7 o7 t7 c7 => ?_
  simp only [ov_s]
  have b1 := o7.see (o6.see b1 (not_non _)) (not_non _)
  have b3 := o7.see (o6.see b3 (not_non _)) (not_non _)
  have b5 := o7.see (o6.see ⟨c5, t5⟩ (not_non _)) (not_non _)
  have ba := o7.see ⟨c6, t6⟩ (not_non _)
  have o9 : Only non T5 h5 T7 h7 := o6.trans o7
  have xA : Sl 4 SessR (fz T7 h7) v l := xF.ext (R := SessR) (@SessR.ext) (o9.ext (not_non _))
  have e7 : Ext h h7 := e0.trans fun b o e => o9.kp b o e (not_non _)
  have n1' : h v1 = none := n1
  have n3' : h v3 = none := o1.fresh n3
  have n5' : h v5 = none := (o1.trans o3).fresh n5
  refine rf_it good mixed rfl (by kernel_rfl) (live_it (hA := fz T7 h7) (fz_at ba.1 ba.2) (fz_at c7 t7) xA) (OfJ (fz T7 h7) h v1 v3 v5 l now) (fun _ _ => False)
    ⟨fz_ext _ _, e7, b1.1, b3.1, b5.1⟩ (fun i h' hJ => hJ.1) ?_ (fun _ _ _ _ _ h _ => h) ?_ ?_ ?_ (fun _ _ _ _ h => h.elim) (fun _ _ _ _ _ h => h.elim)
  · intro l' hl' i h' h'' hJ k
    have nl : ∀ c o, h7 c = some o → some c ≠ some l' := fun c o e he => by cases he; rw [hl'] at e; cases e
    exact ⟨fun c o e => k c o (hJ.1 c o e) (nl c o (fz_ext _ _ c o e)), fun c o e => k c o (hJ.2.1 c o e) (nl c o (e7 c o e)), k _ _ hJ.2.2.1 (nl _ _ b1.1), k _ _ hJ.2.2.2.1 (nl _ _ b3.1), k _ _ hJ.2.2.2.2 (nl _ _ b5.1)⟩
  · intro i hi; simp [liveX]
  · intro i hi l' b' h' h2 hl' hb' hJ k ⟨ol, hol⟩ ⟨ob, hob⟩
    have nl : ∀ c o, h7 c = some o → some c ≠ some l' := fun c o e he => by cases he; rw [hl'] at e; cases e
    have nb : ∀ c o, h7 c = some o → c ≠ b' := fun c o e he => by cases he; rw [hb'] at e; cases e
    have hJ2 : OfJ (fz T7 h7) h v1 v3 v5 l now i h2 := ⟨fun c o e => k c o (hJ.1 c o e) (nl c o (fz_ext _ _ c o e)), fun c o e => k c o (hJ.2.1 c o e) (nl c o (e7 c o e)), k _ _ hJ.2.2.1 (nl _ _ b1.1), k _ _ hJ.2.2.2.1 (nl _ _ b3.1), k _ _ hJ.2.2.2.2 (nl _ _ b5.1)⟩
    have hi' : i < (liveS l now).length := by simpa [liveX] using hi
    have hxi : (liveX l now)[i] = #[.agg (sessC (liveS l now)[i]).toArray] := by simp [liveX]
    rw [hxi]
    refine ⟨OfA (fz T7 h7) h v1 v3 v5 l now i (liveS l now)[i] l' b', ?_, ?_, ?_⟩
    · rintro m2 s2 h3 h4 ⟨rfl, sb, q1, q2, q3, q4, q4', q5, q6, q7, q8⟩ k4
      exact ⟨rfl, sb, q1, q2, q3, q4, q4', k4 _ _ q5 (by simpa using q4), q6, q7, ⟨fun c o e => k4 c o (q8.1 c o e) (nl c o (fz_ext _ _ c o e)), fun c o e => k4 c o (q8.2.1 c o e) (nl c o (e7 c o e)), k4 _ _ q8.2.2.1 (nl _ _ b1.1), k4 _ _ q8.2.2.2.1 (nl _ _ b3.1), k4 _ _ q8.2.2.2.2 (nl _ _ b5.1)⟩⟩
    · rw [ea_aggr_Of_0]
      unfold da_aggr_Of_0
      rw [zcSess]
      simp -implicitDefEqProofs
      refine nw_st rfl rfl (by simp [sessC]) fun sb h4 n4 e4 c4 => ?_
      refine ⟨⟨rfl, sb, by simp, by simp, by simp, fun e => (by subst e; rw [hol] at n4; cases n4), fun e => (by subst e; rw [hob] at n4; cases n4), c4, fun e => (by subst e; rw [hJ2.2.2.2.1] at n4; cases n4), fun e => (by subst e; rw [hJ2.2.2.2.2] at n4; cases n4), ?_⟩, by rw [hol, e4 _ _ hol], by rw [hob, e4 _ _ hob]⟩
      exact ⟨hJ2.1.trans e4, hJ2.2.1.trans e4, e4 _ _ hJ2.2.2.1, e4 _ _ hJ2.2.2.2.1, e4 _ _ hJ2.2.2.2.2⟩
    · rintro m2 s2 h3 ⟨rfl, sb, q1, q2, q3, q4, q4', q5, q6, q7, q8⟩ ⟨ol3, hol3⟩ ⟨ob3, hob3⟩
      obtain ⟨r1, r2, r3, r4, r5⟩ := q8
      rw [eb_aggr_Of_0]
      unfold db_aggr_Of_0
      have hn := accL_n l now i (by omega)
      have hlen : (liveS l now).length ≤ l.length := List.length_filter_le _ _
      have hw : IntKind.i64.wrap ((i : Int) + 1) = i + 1 := wrap64_id (by omega) (by omega)
      have hb5 := nb _ _ b5.1
      have hb3 := nb _ _ b3.1
      have hl5 : v5 ≠ l' := fun e => nl _ _ b5.1 (by rw [e])
      have hl3 : v3 ≠ l' := fun e => nl _ _ b3.1 (by rw [e])
      have hst := accL_s hi'
      rw [show accL l now i = ((accL l now i).1, i) from Prod.ext rfl hn] at hst
      have hne : sb ≠ v3 := q6
      have ax : ∀ h4, Ext h3 h4 → h4 l' = h3 l' ∧ h4 b' = h3 b' := fun h4 e => ⟨by rw [hol3, e _ _ hol3], by rw [hob3, e _ _ hob3]⟩
      have finT : ∀ h4, Ext h3 h4 → (accL l now (i + 1)).1 = (liveS l now)[i] → ∀ h5, h5 = upd (upd h4 v3 (.cells (sessC (liveS l now)[i]).toArray ty_api_Session (0, 0))) v5 (.cells #[.int .i64 (i + 1 : Nat)] ty_int (0, 0)) →
          h5 l' = h3 l' ∧ h5 b' = h3 b' ∧ OfJ (fz T7 h7) h v1 v3 v5 l now (i + 1) h5 := fun h4 e hacc h5 e5 => by
        subst e5
        have := ax h4 e
        refine ⟨by rw [upd_ne (Ne.symm hl5), upd_ne (Ne.symm hl3)]; exact this.1, by rw [upd_ne (Ne.symm hb5), upd_ne (Ne.symm hb3)]; exact this.2, fun c o ec => ?_, fun c o ec => ?_, ?_, ?_, upd_same' _ _ _⟩
        · have h1 : c ≠ v5 := fun hc => by
            subst hc
            have : fz T7 h7 c = none := by unfold fz; rw [if_neg]; rw [b5.2]; simp
            rw [this] at ec; cases ec
          have h2 : c ≠ v3 := fun hc => by
            subst hc
            have : fz T7 h7 c = none := by unfold fz; rw [if_neg]; rw [b3.2]; simp
            rw [this] at ec; cases ec
          rw [upd_ne h1, upd_ne h2]; exact e _ _ (r1 _ _ ec)
        · rw [upd_ne (fun hc => by subst hc; rw [n5'] at ec; cases ec), upd_ne (fun hc => by subst hc; rw [n3'] at ec; cases ec)]; exact e _ _ (r2 _ _ ec)
        · rw [upd_ne ne15, upd_ne ne13]; exact e _ _ r3
        · rw [upd_ne ne35, upd_same', hacc]
      have finF : ∀ h4, Ext h3 h4 → (accL l now (i + 1)).1 = (accL l now i).1 → ∀ h5, h5 = upd h4 v5 (.cells #[.int .i64 (i + 1 : Nat)] ty_int (0, 0)) →
          h5 l' = h3 l' ∧ h5 b' = h3 b' ∧ OfJ (fz T7 h7) h v1 v3 v5 l now (i + 1) h5 := fun h4 e hacc h5 e5 => by
        subst e5
        have := ax h4 e
        refine ⟨by rw [upd_ne (Ne.symm hl5)]; exact this.1, by rw [upd_ne (Ne.symm hb5)]; exact this.2, fun c o ec => ?_, fun c o ec => ?_, ?_, ?_, upd_same' _ _ _⟩
        · have h1 : c ≠ v5 := fun hc => by
            subst hc
            have : fz T7 h7 c = none := by unfold fz; rw [if_neg]; rw [b5.2]; simp
            rw [this] at ec; cases ec
          rw [upd_ne h1]; exact e _ _ (r1 _ _ ec)
        · rw [upd_ne (fun hc => by subst hc; rw [n5'] at ec; cases ec)]; exact e _ _ (r2 _ _ ec)
        · rw [upd_ne ne15]; exact e _ _ r3
        · rw [upd_ne ne35, hacc]; exact e _ _ r4
      rw [seqM_eq]
      have hw5 : (↑(i + 1 : Nat) : Int) = i + 1 := by omega
      simp only [sessC] at q5 r4
      by_cases hi0 : i = 0
      · subst hi0
        simp -implicitDefEqProofs [q1, q2, q3, ld_at q5, cel_of q5, stm_at q5, ld_at r4, cel_of r4, stm_at r4, ld_at r5, cel_of r5, stm_at r5, stm_skip ne35, stm_skip (Ne.symm ne35), ld_skip ne35, ld_skip (Ne.symm ne35), cel_skip ne35, cel_skip (Ne.symm ne35), stm_upd, ld_same, cel_same, over, sessC, cel_skip (Ne.symm ne35), stm_skip (Ne.symm ne35), cel_of r5, stm_at r5]
        refine finT h3 (Ext.refl _) (by rw [hst]; simp [stepL]) _ ?_
        rw [upd_comm (Ne.symm ne35)]
        rfl
      · have hi0' : ¬ ((i : Int) = 0) := by omega
        simp -implicitDefEqProofs [q1, q2, q3, ld_at q5, cel_of q5, stm_at q5, ld_at r4, cel_of r4, stm_at r4, ld_at r5, cel_of r5, stm_at r5, stm_upd, ld_same, cel_same, over, hi0', hi0]
        refine better_ok (liveS l now)[i] (accL l now i).1 fun h4 e4 => ?_
        have q5 := e4 _ _ q5
        have r4' := e4 _ _ r4
        have r5' := e4 _ _ r5
        cases hb : better (liveS l now)[i] (accL l now i).1 with
        | true =>
          simp -implicitDefEqProofs [ld_at q5, cel_of q5, stm_at q5, ld_at r4', cel_of r4', stm_at r4', ld_at r5', cel_of r5', stm_at r5', stm_skip ne35, stm_skip (Ne.symm ne35), ld_skip ne35, ld_skip (Ne.symm ne35), cel_skip ne35, cel_skip (Ne.symm ne35), stm_upd, ld_same, cel_same, over, hw]
          refine finT h4 e4 (by rw [hst]; simp [stepL, hb]) _ ?_
          rw [upd_comm (Ne.symm ne35)]
          rfl
        | false =>
          simp -implicitDefEqProofs [ld_at q5, cel_of q5, stm_at q5, ld_at r4', cel_of r4', stm_at r4', ld_at r5', cel_of r5', stm_at r5', stm_upd, ld_same, cel_same, over, hw]
          exact finF h4 e4 (by rw [hst]; simp [stepL, hb, hi0]) _ rfl
  · intro b' h' hb' hd hJ
    simp only [blkM_n, thenM_n]
    obtain ⟨r1, r2, r3, r4, r5⟩ := hJ
    have hlx : (liveX l now).length = (liveS l now).length := by simp [liveX]
    rw [hlx] at r4 r5
    simp only [sessC] at r4
    unfold d_aggr_Of_2
    have nb1 : v1 ≠ b' := fun e => by subst e; rw [b1.1] at hb'; cases hb'
    have bdP : ∀ a b c : Int, bdV (binf P ty_api_Presence) [(0, .int .i64 a), (1, .int .i64 b), (2, .int .i64 c)] = some (.agg #[.int .i64 a, .int .i64 b, .int .i64 c]) := fun a b c => by kernel_rfl
    simp -implicitDefEqProofs [ld_at r3, cel_of r3, stm_at r3, ld_at r4, cel_of r4, stm_at r4, ld_at r5, cel_of r5, stm_at r5, stm_upd, ld_same, cel_same, over, bdP, upd_ne (Ne.symm nb1), hd, tgPres, ld_skip nb1]
    refine kv (hk _ ?_) (by rw [presOf, ← accL_all, accL_n _ _ _ (Nat.le_refl _)]; rfl)
    intro c o ec
    rw [upd_ne (fun hc => by subst hc; rw [e7 _ _ ec] at hb'; cases hb'), upd_ne (fun hc => by subst hc; rw [n1'] at ec; cases ec)]
    exact r2 _ _ ec
end Go.Proofs.Ytcnphhhcknhhaaa

namespace Go.Proofs.Ytcnphhhcknhhaaa
open Go Go.Den Go.MapKept
set_option linter.unusedSimpArgs false
set_option linter.unusedVariables false
set_option maxRecDepth 20000
theorem isNaN_ok (a : ByteArray) {h : Heap} {K : Value → Heap → Prop} (hk : K (.bool false) h) : callM P fn_cmp_isNaN_string #[.string a] h K := by
  apply e_cmp_isNaN_string
  unfold d_cmp_isNaN_string
  simpa using hk
theorem sisNaN_ok (a : ByteArray) {h : Heap} {K : Value → Heap → Prop} (hk : K (.bool false) h) : callM P fn_slices_isNaN_string #[.string a] h K := by
  apply e_slices_isNaN_string
  unfold d_slices_isNaN_string
  simpa using hk
theorem cmpLess_ok (a b : ByteArray) {h : Heap} {K : Value → Heap → Prop} (hk : K (.bool (ltS a b)) h) : callM P fn_cmp_Less_string #[.string a, .string b] h K := by
  apply e_cmp_Less_string
  unfold d_cmp_Less_string
  refine isNaN_ok a ?_
  unfold d_cmp_Less_string_1
  have e : binV .lss 3 false (.string a) (.string b) = some (.bool (ltS a b)) := rfl
  simp -implicitDefEqProofs [e]
  exact hk
theorem str_at {F : Heap} {v : Value} {l : List ByteArray} (x : Sl 1 StrR F v l) {i : Nat} (hi : i < l.length) {k : IntKind} : ∃ b p, iaV (some (none, 1)) v (.int k i) = some (.pointer (some ⟨b, p, none⟩)) ∧ ∀ h', Ext F h' → cel h' b p = some (.string l[i]) := by
  obtain ⟨b, p, c, h1, h2, h3⟩ := x.at (k := k) (i := i) (by omega) (by omega)
  refine ⟨b, p, h1, fun h' e => ?_⟩
  have hc : c = [.string l[i]] := h3.1
  subst hc
  have := (cels_get (cels_ext e h2)).2 0 (by simp)
  simpa using this
set_option maxHeartbeats 1000000 in
theorem bs_ok (l : List ByteArray) (so : SrtK l) (u : ByteArray) {h : Heap} {v : Value} (x : Sl 1 StrR h v l) (hl : l.length < 1000000) {K : Value → Heap → Prop} (hk : K (.tuple #[.int .i64 (pos l u), .bool (l.any fun k => decide (k = u))]) h) :
    callM P fn_slices_BinarySearch_string_string #[v, .string u] h K := by
  apply e_slices_BinarySearch_string_string
  unfold d_slices_BinarySearch_string_string
  have hlen := x.len
  simp only [hlen, ov_s]
  rw [seqM_eq]
  unfold d_slices_BinarySearch_string_string_1
  refine loop_on [0, 1, 6] (fun s h' => h' = h ∧ ∃ i j : Nat, i ≤ j ∧ j ≤ l.length ∧ s 7 = .int .i64 i ∧ s 8 = .int .i64 j ∧ (∀ k (hk : k < l.length), k < i → ltS l[k] u = true) ∧ ∀ k (hk : k < l.length), j ≤ k → ltS l[k] u = false)
    (fun s _ => (num (s 8) - num (s 7)).toNat) ⟨rfl, 0, l.length, by omega, by omega, rfl, by simp, fun k _ h => by omega, fun k hk h => by omega⟩ ?_
  rintro s h1 hf ⟨rfl, i, j, hij, hj, s7, s8, hlo, hhi⟩
  have s0 : s 0 = v := by simpa using hf 0 (by simp)
  have s1 : s 1 = .string u := by simpa using hf 1 (by simp)
  have s6 : s 6 = .int .i64 l.length := by simpa using hf 6 (by simp)
  unfold d_slices_BinarySearch_string_string_2
  simp only [s7, s8, bin_lss, ov_s, cd_b]
  refine ⟨fun hc => ?_, fun hc => ?_⟩
  · have hlt : i < j := by have : ((i : Int) < j) := by simpa using hc
                           omega
    obtain ⟨m, hm⟩ : ∃ m : Nat, m = (i + j) / 2 := ⟨_, rfl⟩
    have hm1 : i ≤ m ∧ m < j := by omega
    have w1 : IntKind.i64.wrap ((i : Int) + j) = (i + j : Nat) := by rw [wrap64_id (by omega) (by omega)]; omega
    have w2 : IntKind.u64.wrap ((i + j : Nat) : Int) = (i + j : Nat) := wrapU_id (by omega) (by omega)
    have w3 : binV .shr 2 true (.int .u64 ((i + j : Nat) : Int)) (.int .u64 1) = some (.int .u64 m) := by
      have : ((i + j : Nat) : Int).fdiv 2 = m := by rw [Int.fdiv_eq_ediv_of_nonneg _ (by omega)]; omega
      simp -implicitDefEqProofs [binV, intV, IntKind.bits]
      rw [← this]; rfl
    have w4 : IntKind.i64.wrap (m : Int) = m := wrap64_id (by omega) (by omega)
    have w5 : IntKind.i64.wrap ((m : Int) + 1) = m + 1 := wrap64_id (by omega) (by omega)
    obtain ⟨b, p, i1, i2⟩ := str_at x (k := .i64) (i := m) (by omega)
    unfold d_slices_BinarySearch_string_string_3
    simp only [s0, s1, s7, s8, bin_add, ov_s, w1, cvV_i, w2, w3, w4, i1, ldV_c, i2 _ (Ext.refl _)]
    refine cmpLess_ok _ _ ?_
    unfold d_slices_BinarySearch_string_string_4 d_slices_BinarySearch_string_string_5 d_slices_BinarySearch_string_string_6
    cases hlm : ltS l[m] u with
    | true =>
      simp -implicitDefEqProofs [w5, s0, s1, s6, s7, s8]
      refine ⟨⟨m + 1, j, by omega, by omega, by simp, rfl, fun k hk hkm => ?_, hhi⟩, by omega⟩
      by_cases e : k = m
      · subst e; exact hlm
      · exact ltS_trans (so.at (show k < m by omega) (by omega)) hlm
    | false =>
      simp -implicitDefEqProofs [s0, s1, s6, s7, s8]
      refine ⟨⟨i, m, by omega, by omega, rfl, rfl, hlo, fun k hk hkm => ?_⟩, by omega⟩
      by_cases e : k = m
      · subst e; exact hlm
      · cases hh : ltS l[k] u with
        | false => rfl
        | true => rw [ltS_trans (so.at (show m < k by omega) hk) hh] at hlm; cases hlm
  · have : i = j := by have : ¬ ((i : Int) < j) := by simpa using hc
                       omega
    subst this
    have hp : pos l u = i := pos_of u hj (fun k hk hki => hlo k hk hki) (fun hk => hhi i hk (by omega))
    have hany : (l.any fun k => decide (k = u)) = true ↔ u ∈ l := by simp
    have hmem := mem_pos so u
    rw [hp] at hk
    simp only [lpM_e, blkM_e, if_true, thenM_n]
    unfold d_slices_BinarySearch_string_string_7
    by_cases hil : i < l.length
    · obtain ⟨b, p, i1, i2⟩ := str_at x (k := .i64) (i := i) hil
      have hil' : (i : Int) < l.length := by omega
      by_cases heq : l[i] = u
      · have : (l.any fun k => decide (k = u)) = true := hany.2 (heq ▸ List.getElem_mem hil)
        simp -implicitDefEqProofs [s0, s1, s6, s7, s8, hil', hil, i1, i2 _ (Ext.refl _), heq]
        rw [this] at hk; exact hk
      · have : (l.any fun k => decide (k = u)) = false := by
          cases hh : (l.any fun k => decide (k = u)) with
          | false => rfl
          | true => obtain ⟨h3, h4⟩ := hmem.1 (hany.1 hh); simp only [hp] at h4; exact absurd h4 heq
        simp -implicitDefEqProofs [s0, s1, s6, s7, s8, hil', hil, i1, i2 _ (Ext.refl _), heq]
        refine sisNaN_ok _ ?_
        rw [this] at hk; exact hk
    · have hil' : ¬ ((i : Int) < l.length) := by omega
      have : (l.any fun k => decide (k = u)) = false := by
        cases hh : (l.any fun k => decide (k = u)) with
        | false => rfl
        | true => obtain ⟨h3, h4⟩ := hmem.1 (hany.1 hh); rw [hp] at h3; exact absurd h3 hil
      simp -implicitDefEqProofs [s0, s1, s6, s7, s8, hil', hil]
      rw [this] at hk; exact hk
theorem zcEnt : zc P ty_book_Entry = some #[.slice none 0 0, .int .i64 0, .int .i64 0, .int .i64 0] := by kernel_rfl
theorem find_ok (l : List ByteArray) (so : SrtK l) (u : ByteArray) {h : Heap} {kw vw : Value} (ov_ : vw.cells = #[vw]) (x : Sl 1 StrR h kw l) (hl : l.length < 1000000) {K : Value → Heap → Prop} (hk : ∀ h', Ext h h' → K (.tuple #[.int .i64 (pos l u), .bool (l.any fun k => decide (k = u))]) h') :
    callM P fn_omap_Map_string_book_Entry_find #[.agg #[kw, vw], .string u] h K := by
  apply e_omap_Map_string_book_Entry_find
  unfold d_omap_Map_string_book_Entry_find
  refine nw_agg fun v1 h1 n1 e1 c1 => ?_
  simp -implicitDefEqProofs [ld_at c1, cel_of c1, stm_at c1, stm_upd, ld_same, cel_same, over]
  refine bs_ok l so u (x.ext (@StrR.ext) e1) hl ?_
  simp -implicitDefEqProofs
  exact hk _ e1
/-- A key's value. -/
theorem get_ok (b : Book) (so : SrtK (keysB b)) (u : ByteArray) {F h : Heap} (eF : Ext F h) {kw vw : Value} (x : BookR F kw vw b) (hl : b.length < 1000000) {K : Value → Heap → Prop}
    (hk : ∀ h' sv, Ext h h' → Sl 4 SessR F sv (entOf b u).ss → K (.tuple #[.agg (sv :: presC (entOf b u).told).toArray, .bool (hasB b u)]) h') : callM P fn_omap_Map_string_book_Entry_Get #[.agg #[kw, vw], .string u] h K := by
  apply e_omap_Map_string_book_Entry_Get
  unfold d_omap_Map_string_book_Entry_Get
  rw [zcEnt]
  refine nw_agg fun v1 h1 n1 e1 c1 => ?_
  refine nw_intro fun v3 h3 n3 e3 c3 => ?_
  refine nw_intro fun v5 h5 n5 e5 c5 => ?_
  have c1 := e5 _ _ (e3 _ _ c1)
  have ne35 := ne_fresh c3 n5
  have c3 := e5 _ _ c3
  have e0 := (e1.trans e3).trans e5
  have n3 := fresh_of e1 n3
  simp -implicitDefEqProofs [ld_at c1, cel_of c1, stm_at c1, stm_upd, ld_same, cel_same, over]
  refine find_ok (keysB b) so u x.2.one.2 (x.1.ext (@StrR.ext) (eF.trans e0)) (by simpa [keysB] using hl) fun h6 e6 => ?_
  have c1 := e6 _ _ c1
  have c3 := e6 _ _ c3
  have c5 := e6 _ _ c5
  have e0 := e0.trans e6
  unfold d_omap_Map_string_book_Entry_Get_1
  simp only [exV_0, exV_1, ov_s, unV_n, cd_b]
  refine ⟨fun hn => ?_, fun hy => ?_⟩
  · have hno : u ∉ keysB b := fun hh => by
      have := hasB_iff.2 hh
      unfold hasB at this
      rw [this] at hn; cases hn
    unfold d_omap_Map_string_book_Entry_Get_2
    simp -implicitDefEqProofs [ld_at c3, cel_of c3, stm_at c3, ld_at c5, cel_of c5, stm_at c5, stm_upd, ld_same, cel_same, over]
    have he := entOf_none hno
    refine kv (hk _ (.slice none 0 0) (ext_upd n3 e0) (by rw [he]; exact .inl ⟨rfl, _, _, rfl⟩)) ?_
    have : hasB b u = false := by
      cases hh : hasB b u with
      | false => rfl
      | true => exact absurd (hasB_iff.1 hh) hno
    rw [he, this]; rfl
  · have hyes : hasB b u = true := by
      unfold hasB
      simpa using hy
    obtain ⟨h1, h2⟩ := (mem_pos so u).1 (hasB_iff.1 hyes)
    have hlen : (keysB b).length = b.length := by simp [keysB]
    have hp : pos (keysB b) u < b.length := by omega
    have hu : b[pos (keysB b) u].1 = u := by simpa [keysB] using h2
    have he : entOf b u = b[pos (keysB b) u].2 := by
      have := entOf_mem so hp
      rw [hu] at this; exact this
    obtain ⟨eb, eo, c, i1, i2, sv, i3, i4⟩ := x.2.at (k := .i64) (i := pos (keysB b) u) (by omega) (by simpa using hp)
    simp only [Int.toNat_natCast, List.getElem_map] at i3 i4
    have i2 := cels_ext (eF.trans e0) i2
    rw [← he] at i3 i4
    subst i3
    unfold d_omap_Map_string_book_Entry_Get_3
    simp only [presC] at i2
    simp -implicitDefEqProofs [ld_at c1, cel_of c1, stm_at c1, ld_at c3, cel_of c3, stm_at c3, stm_upd, ld_same, cel_same, over, i1, ldV_n i2, i4.one.1, i4.one.2]
    refine kv (hk _ sv (ext_upd n3 e0) i4) ?_
    rw [hyes]; rfl
theorem presence_ok (b : Book) (so : SrtK (keysB b)) (u : ByteArray) (now : Int) {F h : Heap} (eF : Ext F h) {kw vw : Value} (x : BookR F kw vw b) (hl : b.length < 1000000) (hs : (entOf b u).ss.length < 1000000) {K : Value → Heap → Prop}
    (hk : ∀ h', Ext h h' → K (.agg (presC (presB b u now)).toArray) h') : callM P fn_book_Presence #[.agg #[kw, vw], .string u, .int .u64 now] h K := by
  apply e_book_Presence
  unfold d_book_Presence
  rw [zcPres]
  refine nw_agg fun v1 h1 n1 e1 c1 => ?_
  refine nw_intro fun v3 h3 n3 e3 c3 => ?_
  have c1 := e3 _ _ c1
  have e0 := e1.trans e3
  have n3 := fresh_of e1 n3
  simp -implicitDefEqProofs [ld_at c1, cel_of c1, stm_at c1, stm_upd, ld_same, cel_same, over]
  refine get_ok b so u (eF.trans e0) x hl fun h5 sv e5 hsv => ?_
  have c3 := e5 _ _ c3
  have e0 := e0.trans e5
  unfold d_book_Presence_1
  simp only [exV_0, exV_1, ov_s, zcEnt]
  refine nw_intro fun v10 h6 n6 e6 c6 => ?_
  have ne := ne_fresh c3 n6
  have c3 := e6 _ _ c3
  have e1' := e0.trans e6
  have n10 := fresh_of e0 n6
  have os := hsv.one
  simp -implicitDefEqProofs [ld_at c6, cel_of c6, stm_at c6, stm_upd, ld_same, cel_same, over, presC, os.1, os.2]
  refine aggOf_ok _ now (hsv.ext (R := SessR) (@SessR.ext) (eF.trans (ext_upd n10 e1'))) hs fun h7 e7 => ?_
  have c3 := e7 _ _ (by rw [upd_ne ne]; exact c3)
  simp -implicitDefEqProofs [ld_at c3, cel_of c3, stm_at c3, stm_upd, ld_same, cel_same, over, presC]
  exact kv (hk _ (ext_upd n3 ((ext_upd n10 e1').trans e7))) rfl
end Go.Proofs.Ytcnphhhcknhhaaa

namespace Go.Proofs.Ytcnphhhcknhhaaa
open Go Go.Den Go.MapKept
set_option linter.unusedSimpArgs false
set_option linter.unusedVariables false
set_option maxRecDepth 20000
theorem bsStr : bsI P ty_Sl_string = some (ty_string, 1, #[.string ⟨#[]⟩]) := by kernel_rfl
theorem unSlStr : P.underlying ty_Sl_string = some (.slice ty_string) := by kernel_rfl
theorem apStr : apC P ty_string = some (1, 16, 1) := by kernel_rfl
def strC1 (s : ByteArray) : List Value := [.string s]
def StrE (_ : Heap) (c : List Value) (s : ByteArray) : Prop := c = strC1 s
theorem strE_of {h : Heap} {v : Value} {l : List ByteArray} (x : Sl 1 StrR h v l) : Sl 1 StrE h v l := by
  rcases x with h1 | ⟨b, o, cap, rfl, h1, h2, h3⟩
  · exact .inl h1
  · exact .inr ⟨b, o, cap, rfl, h1, h2, fun i hi => let ⟨c, h4, h5⟩ := h3 i hi; ⟨c, h4, h5.1⟩⟩
theorem strR_of {h : Heap} {v : Value} {l : List ByteArray} (x : Sl 1 StrE h v l) (hs : ∀ s ∈ l, s.size ≤ maxLen) : Sl 1 StrR h v l := by
  rcases x with h1 | ⟨b, o, cap, rfl, h1, h2, h3⟩
  · exact .inl h1
  · exact .inr ⟨b, o, cap, rfl, h1, h2, fun i hi => let ⟨c, h4, h5⟩ := h3 i hi; ⟨c, h4, h5, hs _ (List.getElem_mem _)⟩⟩
theorem str_sizes {h : Heap} {v : Value} {l : List ByteArray} (x : Sl 1 StrR h v l) : ∀ s ∈ l, s.size ≤ maxLen := by
  intro s hs
  obtain ⟨i, hi, rfl⟩ := List.getElem_of_mem hs
  obtain ⟨b, o, c, _, _, h3⟩ := x.at (k := .i64) (i := i) (by omega) (by omega)
  exact h3.2
theorem users_ok (x : OpD) (xw : OpW x) {T : Tags} {h : Heap} (w : Wf T h) {v : Value} (hv : Sl 1 StrR h v x.users) (hl : x.users.length < 1000000) {K : Value → Heap → Prop}
    (hk : ∀ v' h', Ext h h' → Sl 1 StrR (fz T h') v' (usersOf x) → K v' h') : callM P fn_model_Users #[.agg (opC x v).toArray] h K := by
  apply e_model_Users
  unfold d_model_Users
  refine nw_agg fun v1 h1 n1 e1 c1 => ?_
  simp only [opC] at c1
  by_cases k4 : x.kind = 4
  · simp -implicitDefEqProofs [ld_at c1, cel_of c1, stm_at c1, stm_upd, ld_same, cel_same, over, k4]
    refine bs_one bsStr rfl (by omega) fun b h2 n2 e2 c2 => ?_
    refine hk _ h2 (e1.trans e2) ?_
    rw [usersOf, if_pos k4]
    refine .inr ⟨b, 0, 1, rfl, by simp, by unfold maxLen; omega, fun i hi => ⟨[.string x.user], ?_, ?_⟩⟩
    · have : i = 0 := by simpa using hi
      subst this
      have := cels_of (fz_new w (fresh_of e1 n2) c2) (n := 1) (o := 0) (l := [.string x.user]) (by simp) rfl
      simpa using this
    · have : i = 0 := by simpa using hi
      subst this
      exact ⟨rfl, xw.s1⟩
  · by_cases k5 : x.kind = 5
    · unfold d_model_Users_1 d_model_Users_2
      simp -implicitDefEqProofs [ld_at c1, cel_of c1, stm_at c1, stm_upd, ld_same, cel_same, over, k5]
      refine bs_none bsStr fun v2 h2 e2 r2 _ f2 => ?_
      have c1 := e2 _ _ c1
      simp -implicitDefEqProofs [ld_at c1, cel_of c1, stm_at c1, stm_upd, ld_same, cel_same, over]
      refine copy_intro (enc := strC1) (R := StrE) unSlStr apStr (by omega) w (e1.trans e2) r2 (fun g hg => fresh_of e1 (f2 g hg)) id (fun _ _ => rfl) (fun _ => rfl) (strE_of (hv.ext (@StrR.ext) (e1.trans e2))) (by simp [strC1]) (by unfold maxLen; omega) (by omega) fun v3 h3 e3 x3 => ?_
      refine hk v3 h3 e3 ?_
      rw [usersOf, if_neg k4, if_pos k5]
      exact strR_of x3 (str_sizes hv)
    · unfold d_model_Users_1
      simp -implicitDefEqProofs [ld_at c1, cel_of c1, stm_at c1, stm_upd, ld_same, cel_same, over, k4, k5]
      refine hk _ _ e1 ?_
      rw [usersOf, if_neg k4, if_neg k5]
      exact .inl ⟨rfl, _, _, rfl⟩
theorem all_succ {α : Type} {p : α → Bool} {l : List α} {i : Nat} (h : i < l.length) (ha : (l.take i).all p = true) (hn : p l[i] = true) : (l.take (i + 1)).all p = true := by
  rw [List.take_succ_eq_append_getElem h, List.all_append, ha]; simp [hn]
set_option maxHeartbeats 1000000 in
theorem modBad_ok (x : OpD) (xw : OpW x) {h : Heap} {v : Value} (hv : Sl 1 StrR h v x.users) (hl : x.users.length < 1000000) {K : Value → Heap → Prop}
    (hk : ∀ h', Ext h h' → K (.bool (badB x)) h') : callM P fn_model_Bad #[.agg (opC x v).toArray] h K := by
  apply e_model_Bad
  unfold d_model_Bad
  refine nw_agg fun v1 h1 n1 e1 c1 => ?_
  simp only [opC] at c1
  have hk1 := hk h1 e1
  rw [seqM_eq]
  unfold d_model_Bad_1
  by_cases k1 : x.kind = 1
  · unfold d_model_Bad_2
    simp -implicitDefEqProofs [ld_at c1, cel_of c1, stm_at c1, stm_upd, ld_same, cel_same, over, k1]
    refine hashRight_ok _ ?_
    unfold d_model_Bad_3
    simp +contextual -implicitDefEqProofs [ld_at c1, cel_of c1, stm_at c1, stm_upd, ld_same, cel_same, over]
    refine gM_call0 (a := .bool (decide (0 ≤ x.id ∧ x.id ≤ 255 ∧ 1 ≤ x.status ∧ x.status ≤ 9 ∧ 0 ≤ x.prio ∧ x.prio ≤ 9))) (fun hc K' hk' => sessRight_ok _ _ _ hk') ?_
    simp +contextual -implicitDefEqProofs
    refine kb hk1 ?_
    rw [badB, if_pos k1]
    cases nameB x.user <;> simp
  unfold d_model_Bad_4
  simp -implicitDefEqProofs [ld_at c1, cel_of c1, stm_at c1, stm_upd, ld_same, cel_same, over, k1]
  rw [seqM_eq]
  unfold d_model_Bad_5 d_model_Bad_6
  by_cases k2 : x.kind = 2 ∨ x.kind = 3
  · have hb : badB x = !(nameB x.user && decide (0 ≤ x.id ∧ x.id ≤ 255)) := by rw [badB, if_neg k1, if_pos k2]
    rw [hb] at hk1
    unfold d_model_Bad_7 d_model_Bad_8
    rcases k2 with k2 | k2
    all_goals
      simp -implicitDefEqProofs [ld_at c1, cel_of c1, stm_at c1, stm_upd, ld_same, cel_same, over, k2]
      refine hashRight_ok _ ?_
      unfold d_model_Bad_9
      simp +contextual -implicitDefEqProofs [ld_at c1, cel_of c1, stm_at c1, stm_upd, ld_same, cel_same, over]
      refine gM_call0 (a := .bool (decide (0 ≤ x.id ∧ x.id ≤ 255))) (fun hc K' hk' => within_ok _ _ _ hk') ?_
      simp +contextual -implicitDefEqProofs
      refine kb hk1 ?_
      cases nameB x.user <;> simp
  have k2' : ¬ x.kind = 2 := fun h => k2 (.inl h)
  have k3' : ¬ x.kind = 3 := fun h => k2 (.inr h)
  unfold d_model_Bad_7 d_model_Bad_10
  simp -implicitDefEqProofs [k2', k3']
  rw [seqM_eq]
  unfold d_model_Bad_11 d_model_Bad_12 d_model_Bad_13
  by_cases k4 : x.kind = 4 ∨ x.kind = 6 ∨ x.kind = 7
  · have hb : badB x = !nameB x.user := by rw [badB, if_neg k1, if_neg k2, if_pos k4]
    rw [hb] at hk1
    unfold d_model_Bad_14 d_model_Bad_15
    rcases k4 with k4 | k4 | k4
    all_goals
      simp -implicitDefEqProofs [ld_at c1, cel_of c1, stm_at c1, stm_upd, ld_same, cel_same, over, k4]
      refine hashRight_ok _ ?_
      simp -implicitDefEqProofs
      exact hk1
  have k4' : ¬ x.kind = 4 := fun h => k4 (.inl h)
  have k6' : ¬ x.kind = 6 := fun h => k4 (.inr (.inl h))
  have k7' : ¬ x.kind = 7 := fun h => k4 (.inr (.inr h))
  unfold d_model_Bad_14 d_model_Bad_16
  simp -implicitDefEqProofs [k4', k6', k7']
  by_cases k5 : x.kind = 5
  · have hb : badB x = !(decide (1 ≤ x.users.length ∧ x.users.length ≤ 8) && x.users.all nameB) := by rw [badB, if_neg k1, if_neg k2, if_neg k4, if_pos k5]
    have hlen := hv.len
    have hk' : ∀ h', Ext h1 h' → K (.bool (!(decide (1 ≤ x.users.length ∧ x.users.length ≤ 8) && x.users.all nameB))) h' := fun h' e => by rw [← hb]; exact hk h' (e1.trans e)
    unfold d_model_Bad_17
    simp -implicitDefEqProofs [k5]
    rw [seqM_eq]
    unfold d_model_Bad_18
    simp -implicitDefEqProofs [ld_at c1, cel_of c1, stm_at c1, stm_upd, ld_same, cel_same, over, hlen]
    refine loop_on [1, 47, 48] (fun s h' => h' = h1 ∧ ∃ i : Nat, i ≤ x.users.length ∧ s 49 = .int .i64 i ∧ (x.users.take i).all nameB = true) (fun s _ => (x.users.length - num (s 49)).toNat) ⟨rfl, 0, by omega, by simp, by simp⟩ ?_
    rintro s h2 hf ⟨rfl, i, hi, s49, hall⟩
    have s1 : s 1 = ptr v1 := by simpa using hf 1 (by simp)
    have s47 : s 47 = v := by simpa using hf 47 (by simp)
    have s48 : s 48 = .int .i64 x.users.length := by simpa using hf 48 (by simp)
    unfold d_model_Bad_19
    simp only [s48, s49, bin_lss, ov_s, cd_b]
    refine ⟨fun hc => ?_, fun hc => ?_⟩
    · have hlt : i < x.users.length := by have : ((i : Int) < x.users.length) := by simpa using hc
                                          omega
      obtain ⟨b, o, i1, i2⟩ := str_at hv (k := .i64) hlt
      have hw : IntKind.i64.wrap ((i : Int) + 1) = i + 1 := wrap64_id (by omega) (by omega)
      unfold d_model_Bad_20
      simp only [s47, s49, i1, ov_s, ldV_c, i2 _ e1]
      refine hashRight_ok _ ?_
      unfold d_model_Bad_21 d_model_Bad_22
      cases hn : nameB x.users[i] with
      | true =>
        simp -implicitDefEqProofs [s49, hw, s1, s47, s48]
        refine ⟨⟨i + 1, by omega, by simp, ?_⟩, by omega⟩
        simpa using all_succ hlt hall hn
      | false =>
        simp -implicitDefEqProofs
        refine kb (hk' _ (Ext.refl _)) ?_
        have : x.users.all nameB = false := by rw [List.all_eq_false]; exact ⟨_, List.getElem_mem hlt, by simp [hn]⟩
        simp -implicitDefEqProofs [this]
    · have : i = x.users.length := by have : ¬ ((i : Int) < x.users.length) := by simpa using hc
                                      omega
      subst this
      rw [List.take_length] at hall
      unfold d_model_Bad_23
      simp -implicitDefEqProofs [s1, ld_at c1, cel_of c1, stm_at c1, stm_upd, ld_same, cel_same, over, hlen]
      refine within_ok _ _ _ ?_
      simp -implicitDefEqProofs
      refine kb (hk' _ (Ext.refl _)) ?_
      have e : decide (1 ≤ x.users.length ∧ x.users.length ≤ 8) = decide ((1 : Int) ≤ x.users.length ∧ (x.users.length : Int) ≤ 8) := decide_eq_decide.2 (by omega)
      rw [hall, e]; simp
  · have hb : badB x = !decide (x.kind = 8 ∨ x.kind = 9) := by rw [badB, if_neg k1, if_neg k2, if_neg k4, if_neg k5]
    rw [hb] at hk1
    unfold d_model_Bad_24
    simp -implicitDefEqProofs [k5]
    rw [seqM_eq]
    unfold d_model_Bad_25 d_model_Bad_26
    by_cases k8 : x.kind = 8
    · simp -implicitDefEqProofs [ld_at c1, cel_of c1, stm_at c1, stm_upd, ld_same, cel_same, over, k8]
      exact kb hk1 (by simp [k8])
    · by_cases k9 : x.kind = 9
      · simp -implicitDefEqProofs [ld_at c1, cel_of c1, stm_at c1, stm_upd, ld_same, cel_same, over, k9]
        exact kb hk1 (by simp [k9])
      · simp -implicitDefEqProofs [ld_at c1, cel_of c1, stm_at c1, stm_upd, ld_same, cel_same, over, k1, k2', k3', k4', k5, k6', k7', k8, k9]
        exact kb hk1 (by simp [k8, k9])
set_option maxHeartbeats 1000000 in
theorem short_ok (x : OpD) {h : Heap} {v : Value} (hv : Sl 1 StrR h v x.users) {K : Value → Heap → Prop} (hk : ∀ h', Ext h h' → K (.bool (shortB x)) h') : callM P fn_doormanref10_Short #[.agg (opC x v).toArray] h K := by
  apply e_doormanref10_Short
  unfold d_doormanref10_Short
  refine nw_agg fun v1 h1 n1 e1 c1 => ?_
  simp only [opC] at c1
  have hlen := hv.len
  have hk1 := hk h1 e1
  by_cases h40 : x.user.size ≤ 40
  rotate_left
  · have : (40 : Int) < x.user.size := by omega
    simp -implicitDefEqProofs [ld_at c1, cel_of c1, stm_at c1, stm_upd, ld_same, cel_same, over, this]
    exact kb hk1 (by simp [shortB, h40])
  have h40' : ¬ (40 : Int) < x.user.size := by omega
  by_cases h20 : x.users.length ≤ 20
  rotate_left
  · have : (20 : Int) < x.users.length := by omega
    simp -implicitDefEqProofs [ld_at c1, cel_of c1, stm_at c1, stm_upd, ld_same, cel_same, over, h40', this, hlen]
    exact kb hk1 (by simp [shortB, h20])
  have h20' : ¬ (20 : Int) < x.users.length := by omega
  unfold d_doormanref10_Short_1
  simp -implicitDefEqProofs [ld_at c1, cel_of c1, stm_at c1, stm_upd, ld_same, cel_same, over, h40', h20', hlen]
  rw [seqM_eq]
  unfold d_doormanref10_Short_2
  refine loop_on [1] (fun s h' => h' = h1 ∧ ∃ i : Nat, i ≤ x.users.length ∧ s 3 = .int .i64 i ∧ (x.users.take i).all (fun s => decide (s.size ≤ 40)) = true) (fun s _ => (x.users.length - num (s 3)).toNat) ⟨rfl, 0, by omega, rfl, by simp⟩ ?_
  rintro s h2 hf ⟨rfl, i, hi, s3, hall⟩
  have s1 : s 1 = ptr v1 := by simpa using hf 1 (by simp)
  unfold d_doormanref10_Short_3
  simp only [s1, faV_p, ov_s, ldV_c, Nat.zero_add, cel_of c1, List.getElem?_toArray, List.getElem?_cons_succ, List.getElem?_cons_zero, hlen, s3, bin_lss, cd_b]
  refine ⟨fun hc => ?_, fun hc => ?_⟩
  · have hlt : i < x.users.length := by have : ((i : Int) < x.users.length) := by simpa using hc
                                        omega
    obtain ⟨b, o, i1, i2⟩ := str_at hv (k := .i64) hlt
    have hw : IntKind.i64.wrap ((i : Int) + 1) = i + 1 := wrap64_id (by omega) (by omega)
    unfold d_doormanref10_Short_4 d_doormanref10_Short_5 d_doormanref10_Short_6
    by_cases hn : x.users[i].size ≤ 40
    · have hn' : ¬ (40 : Int) < x.users[i].size := by omega
      simp -implicitDefEqProofs [s1, s3, ld_at c1, cel_of c1, stm_at c1, stm_upd, ld_same, cel_same, over, i1, i2 _ e1, hn', hw]
      refine ⟨⟨i + 1, by omega, by simp, ?_⟩, by omega⟩
      simpa using all_succ (p := fun s : ByteArray => decide (s.size ≤ 40)) hlt hall (by simp [hn])
    · have hn' : (40 : Int) < x.users[i].size := by omega
      simp -implicitDefEqProofs [s1, s3, ld_at c1, cel_of c1, stm_at c1, stm_upd, ld_same, cel_same, over, i1, i2 _ e1, hn']
      refine kb hk1 ?_
      have : (x.users.all fun s => decide (s.size ≤ 40)) = false := by rw [List.all_eq_false]; exact ⟨_, List.getElem_mem hlt, by simp [hn]⟩
      simp -implicitDefEqProofs [shortB, this]
  · have : i = x.users.length := by have : ¬ ((i : Int) < x.users.length) := by simpa using hc
                                    omega
    subst this
    rw [List.take_length] at hall
    simp -implicitDefEqProofs
    refine kb hk1 ?_
    simp -implicitDefEqProofs [shortB, hall, h40, h20]
end Go.Proofs.Ytcnphhhcknhhaaa

namespace Go.Proofs.Ytcnphhhcknhhaaa
open Go Go.Den Go.MapKept
set_option linter.unusedSimpArgs false
set_option linter.unusedVariables false
set_option maxRecDepth 20000
def allN (l : List ByteArray) : Bool := l.all nameB
theorem allN_s {l : List ByteArray} {i : Nat} (h : i < l.length) : allN (l.take (i + 1)) = (allN (l.take i) && nameB l[i]) := by
  unfold allN; rw [List.take_succ_eq_append_getElem h, List.all_append]; simp
set_option maxHeartbeats 2000000 in
theorem refBad_ok (x : OpD) (xw : OpW x) {h : Heap} {v : Value} (hv : Sl 1 StrR h v x.users) (hl : x.users.length < 1000000) {K : Value → Heap → Prop}
    (hk : ∀ h', Ext h h' → K (.bool (badB x)) h') : callM P fn_doormanref10_Bad #[.agg (opC x v).toArray] h K := by
  apply e_doormanref10_Bad
  unfold d_doormanref10_Bad
  refine nw_agg fun v1 h1 n1 e1 c1 => ?_
  simp only [opC] at c1
  have hk1 := hk h1 e1
  have hlen := hv.len
  simp +contextual -implicitDefEqProofs [ld_at c1, cel_of c1, stm_at c1, stm_upd, ld_same, cel_same, over]
  by_cases k1 : x.kind = 1
  · unfold d_doormanref10_Bad_1
    simp -implicitDefEqProofs [ld_at c1, cel_of c1, stm_at c1, stm_upd, ld_same, cel_same, over, k1]
    refine refName_ok _ ?_
    unfold d_doormanref10_Bad_2
    simp +contextual -implicitDefEqProofs [ld_at c1, cel_of c1, stm_at c1, stm_upd, ld_same, cel_same, over]
    refine kb hk1 ?_
    rw [badB, if_pos k1]
    cases nameB x.user
    · simp -implicitDefEqProofs
    · rw [Bool.eq_iff_iff]; simp; omega
  unfold d_doormanref10_Bad_3
  simp +contextual -implicitDefEqProofs [ld_at c1, cel_of c1, stm_at c1, stm_upd, ld_same, cel_same, over, k1]
  by_cases k2 : x.kind = 2 ∨ x.kind = 3
  · have hb : badB x = !(nameB x.user && decide (0 ≤ x.id ∧ x.id ≤ 255)) := by rw [badB, if_neg k1, if_pos k2]
    unfold d_doormanref10_Bad_4
    simp -implicitDefEqProofs [ld_at c1, cel_of c1, stm_at c1, stm_upd, ld_same, cel_same, over, k2]
    refine ⟨?_, fun h2 h3 => absurd k2 (by omega)⟩
    refine refName_ok _ ?_
    unfold d_doormanref10_Bad_5
    simp +contextual -implicitDefEqProofs
    refine kb hk1 ?_
    rw [hb]
    cases nameB x.user
    · simp -implicitDefEqProofs
    · rw [Bool.eq_iff_iff]; simp; omega
  have k2' : ¬ x.kind = 2 := fun h => k2 (.inl h)
  have k3' : ¬ x.kind = 3 := fun h => k2 (.inr h)
  unfold d_doormanref10_Bad_6
  simp +contextual -implicitDefEqProofs [ld_at c1, cel_of c1, stm_at c1, stm_upd, ld_same, cel_same, over, k2', k3']
  by_cases k4 : x.kind = 4 ∨ x.kind = 6 ∨ x.kind = 7
  · have hb : badB x = !nameB x.user := by rw [badB, if_neg k1, if_neg k2, if_pos k4]
    rw [hb] at hk1
    unfold d_doormanref10_Bad_7
    have k4x : (x.kind = 4 ∨ x.kind = 6) ∨ x.kind = 7 := by omega
    simp -implicitDefEqProofs [ld_at c1, cel_of c1, stm_at c1, stm_upd, ld_same, cel_same, over, k4x]
    refine ⟨?_, fun h2 h3 h7 => absurd k4 (by omega)⟩
    refine refName_ok _ ?_
    simp -implicitDefEqProofs
    exact hk1
  have k4' : ¬ x.kind = 4 := fun h => k4 (.inl h)
  have k6' : ¬ x.kind = 6 := fun h => k4 (.inr (.inl h))
  have k7' : ¬ x.kind = 7 := fun h => k4 (.inr (.inr h))
  unfold d_doormanref10_Bad_8
  simp -implicitDefEqProofs [k4', k6', k7']
  rw [seqM_eq]
  unfold d_doormanref10_Bad_9 d_doormanref10_Bad_14
  by_cases k5 : x.kind = 5
  · have hb : badB x = !(decide (1 ≤ x.users.length ∧ x.users.length ≤ 8) && x.users.all nameB) := by rw [badB, if_neg k1, if_neg k2, if_neg k4, if_pos k5]
    rw [hb] at hk1
    have hlb : (decide ((x.users.length : Int) < 1) || decide ((8 : Int) < x.users.length)) = !decide (1 ≤ x.users.length ∧ x.users.length ≤ 8) := by
      rw [← Bool.decide_or, ← decide_not]; exact decide_eq_decide.2 (by omega)
    generalize decide (1 ≤ x.users.length ∧ x.users.length ≤ 8) = B at *
    unfold d_doormanref10_Bad_10
    simp +contextual -implicitDefEqProofs [ld_at c1, cel_of c1, stm_at c1, stm_upd, ld_same, cel_same, over, k5, hlen]
    rw [seqM_eq]
    unfold d_doormanref10_Bad_11
    refine loop_on [1] (fun s h' => h' = h1 ∧ ∃ i : Nat, i ≤ x.users.length ∧ s 5 = .int .i64 i ∧ s 4 = .bool (!(B && allN (x.users.take i)))) (fun s _ => (x.users.length - num (s 5)).toNat)
      ⟨rfl, 0, by omega, by simp, by simp [hlb, allN]⟩ ?_
    rintro s h2 hf ⟨rfl, i, hi, s5, s4⟩
    have s1 : s 1 = ptr v1 := by simpa using hf 1 (by simp)
    unfold d_doormanref10_Bad_12
    simp only [s1, faV_p, ov_s, ldV_c, Nat.zero_add, cel_of c1, List.getElem?_toArray, List.getElem?_cons_succ, List.getElem?_cons_zero, hlen, s5, bin_lss, cd_b]
    refine ⟨fun hc => ?_, fun hc => ?_⟩
    · have hlt : i < x.users.length := by have : ((i : Int) < x.users.length) := by simpa using hc
                                          omega
      obtain ⟨b, o, i1, i2⟩ := str_at hv (k := .i64) hlt
      have hw : IntKind.i64.wrap ((i : Int) + 1) = i + 1 := wrap64_id (by omega) (by omega)
      have hal := allN_s hlt
      unfold d_doormanref10_Bad_13
      generalize allN (x.users.take i) = A at *
      cases hBA : (B && A) with
      | false =>
        simp only [hBA] at s4
        simp -implicitDefEqProofs [s1, s4, s5, ld_at c1, cel_of c1, stm_at c1, stm_upd, ld_same, cel_same, over, hw]
        refine ⟨⟨i + 1, by omega, by simp, ?_⟩, by omega⟩
        rw [hal]; revert hBA; cases B <;> cases A <;> simp
      | true =>
        simp only [hBA] at s4
        simp -implicitDefEqProofs [s1, s4, s5, ld_at c1, cel_of c1, stm_at c1, stm_upd, ld_same, cel_same, over, hw, i1, i2 _ e1]
        refine refName_ok _ ?_
        simp -implicitDefEqProofs [s1, s4, s5, hw]
        refine ⟨⟨i + 1, by omega, by simp, ?_⟩, by omega⟩
        rw [hal]; revert hBA; cases B <;> cases A <;> simp
    · have : i = x.users.length := by have : ¬ ((i : Int) < x.users.length) := by simpa using hc
                                      omega
      subst this
      rw [List.take_length] at s4
      simp -implicitDefEqProofs [s4]
      exact kb hk1 (by simp [allN])
  · have hb : badB x = !decide (x.kind = 8 ∨ x.kind = 9) := by rw [badB, if_neg k1, if_neg k2, if_neg k4, if_neg k5]
    rw [hb] at hk1
    simp -implicitDefEqProofs [ld_at c1, cel_of c1, stm_at c1, stm_upd, ld_same, cel_same, over, k5]
    unfold d_doormanref10_Bad_15
    simp +contextual -implicitDefEqProofs [ld_at c1, cel_of c1, stm_at c1, stm_upd, ld_same, cel_same, over]
    exact kb hk1 (by simp)
/-! Stripes of users. -/
theorem inS_s {users : List ByteArray} {n : Int} {i s : Nat} (h : i < users.length) : inS (users.take (i + 1)) n s = (inS (users.take i) n s || decide (stripeOf users[i] n = s)) := by
  unfold inS; rw [List.take_succ_eq_append_getElem h, List.any_append]; simp
def inC (users : List ByteArray) (n : Int) : List Value := (List.range 8).map fun s => .bool (inS users n s)
theorem inC_len (users : List ByteArray) (n : Int) : (inC users n).length = 8 := by simp [inC]
theorem zc8 : zc P ty_8_bool = some #[.bool false, .bool false, .bool false, .bool false, .bool false, .bool false, .bool false, .bool false] := by kernel_rfl
theorem bsInt : bsI P ty_Sl_int = some (ty_int, 1, #[.int .i64 0]) := by kernel_rfl
theorem unSlInt : P.underlying ty_Sl_int = some (.slice ty_int) := by kernel_rfl
theorem apInt : apC P ty_int = some (1, 8, 1) := by kernel_rfl
def NatR (_ : Heap) (c : List Value) (n : Nat) : Prop := c = [.int .i64 n]
theorem NatR.ext {h h' : Heap} {c : List Value} {x : Nat} (_ : Ext h h') (r : NatR h c x) : NatR h' c x := r
def natC (n : Nat) : List Value := [.int .i64 n]
def ssTo (users : List ByteArray) (n : Int) (k : Nat) : List Nat := (List.range k).filter (inS users n)
theorem ssTo_s (users : List ByteArray) (n : Int) (k : Nat) : ssTo users n (k + 1) = ssTo users n k ++ if inS users n k then [k] else [] := by
  unfold ssTo
  rw [List.range_succ, List.filter_append]
  congr 1
  cases hh : inS users n k <;> simp [List.filter_cons, hh]
theorem ssTo_le (users : List ByteArray) (n : Int) : ∀ k, (ssTo users n k).length ≤ k
  | 0 => by simp [ssTo]
  | k + 1 => by have := ssTo_le users n k; rw [ssTo_s, List.length_append]; split <;> simp <;> omega
def StripesI (users : List ByteArray) (n : Int) (h : Heap) (v27 v9 : Value) (h' : Heap) : Prop := Ext h h' ∧ ∃ k : Nat, k ≤ 8 ∧ v27 = .int .i64 k ∧ Row 1 ty_int h' v9 (ssTo users n k).length ((ssTo users n k).flatMap natC) ∧ ∀ b, rowOf v9 = some b → h b = none
theorem stripes_ok (users : List ByteArray) (n : Int) (hn : n ≤ 8) {T : Tags} {h : Heap} (w : Wf T h) {v : Value} (x : Sl 1 StrR h v users) (hl : users.length < 1000000) {K : Value → Heap → Prop}
    (hk : ∀ v' h', Ext h h' → Sl 1 NatR (fz T h') v' (stripesOf users n) → K v' h') : callM P fn_hash_Stripes #[v, .int .i64 n] h K := by
  apply e_hash_Stripes
  unfold d_hash_Stripes
  rw [zc8]
  refine nw_intro fun p h1 n1 e1 c1 => ?_
  rw [seqM_eq]
  unfold d_hash_Stripes_1
  have hlen := x.len
  simp -implicitDefEqProofs [hlen]
  refine loop_on [1, 4, 5, 12, 13] (fun s h' => (∃ h0, Ext h h0 ∧ h0 p = none ∧ True) ∧ Keep (some p) h1 h' ∧ ∃ i : Nat, i ≤ users.length ∧ s 14 = .int .i64 i ∧ h' p = some (.cells (inC (users.take i) n).toArray ty_8_bool (0, 0))) (fun s _ => (users.length - num (s 14)).toNat) ⟨⟨h, Ext.refl _, n1, trivial⟩, fun _ _ e _ => e, 0, by omega, rfl, by rw [c1]; simp [inC, inS, List.range_succ]⟩ ?_
  rintro s h2 hf ⟨_, k2, i, hi, s14, hp⟩
  have s1 : s 1 = .int .i64 n := by simpa using hf 1 (by simp)
  have s4 : s 4 = .slice none 0 0 := by simpa using hf 4 (by simp)
  have s5 : s 5 = ptr p := by simpa using hf 5 (by simp)
  have s12 : s 12 = v := by simpa using hf 12 (by simp)
  have s13 : s 13 = .int .i64 users.length := by simpa using hf 13 (by simp)
  have e2 : Ext h h2 := e1.keep k2 (fun b e => by cases e; exact n1)
  unfold d_hash_Stripes_2
  simp only [s13, s14, bin_lss, ov_s, cd_b]
  refine ⟨fun hc => ?_, fun hc => ?_⟩
  · have hlt : i < users.length := by have : ((i : Int) < users.length) := by simpa using hc
                                      omega
    obtain ⟨b, o, i1, i2⟩ := str_at x (k := .i64) hlt
    have hw : IntKind.i64.wrap ((i : Int) + 1) = i + 1 := wrap64_id (by omega) (by omega)
    have hsz := str_sizes x _ (List.getElem_mem hlt)
    unfold d_hash_Stripes_3
    rw [seqM_eq]
    unfold d_hash_Stripes_4
    simp only [s12, s14, i1, ov_s, ldV_c, i2 _ e2, s1]
    refine stripe_ok _ _ (by omega) hsz ?_
    unfold d_hash_Stripes_5
    have hrng : 0 ≤ stripeOf users[i] n ∧ stripeOf users[i] n < 8 := by
      by_cases hn1 : 1 ≤ n
      · have := stripeOf_rng users[i] hn1; omega
      · unfold stripeOf; rw [if_pos (by omega)]; omega
    obtain ⟨q, hq⟩ : ∃ q : Nat, stripeOf users[i] n = q := ⟨(stripeOf users[i] n).toNat, by omega⟩
    rw [hq] at hrng ⊢
    simp -implicitDefEqProofs [hrng.2]
    unfold d_hash_Stripes_6
    have hq8 : q < 8 := by omega
    simp -implicitDefEqProofs [s5, ia_arr hq8, stm_at hp, inC_len, show q + 1 ≤ 8 by omega, s14, hw, s1, s4, s12, s13]
    refine ⟨⟨⟨h, Ext.refl _, n1⟩, k2.trans keep_upd, i + 1, by omega, by simp, ?_⟩, by omega⟩
    rw [upd_same']
    congr 2
    unfold inC
    rw [over_map1 hq8]
    congr 1
    apply List.map_congr_left
    intro k _
    rw [inS_s hlt, hq]
    by_cases hkq : k = q
    · subst hkq; simp
    · have : ¬ ((q : Int) = k) := by omega
      simp -implicitDefEqProofs [hkq, this]
  · have : i = users.length := by have : ¬ ((i : Int) < users.length) := by simpa using hc
                                  omega
    subst this
    rw [List.take_length] at hp
    simp -implicitDefEqProofs [s1, s4, s5, s12, s13]
    unfold d_hash_Stripes_7
    rw [seqM_eq]
    unfold d_hash_Stripes_8
    have hT : List.take 8 (inC users n) = inC users n := List.take_of_length_le (Nat.le_of_eq (inC_len users n))
    simp -implicitDefEqProofs [s5, ld_at hp, cel_of hp, stm_at hp, stm_upd, ld_same, cel_same, over, inC_len, hT]
    have hx : ∀ k : Nat, k < 8 → xaV (some (none, 8, 1)) (.agg (inC users n).toArray) (.int .i64 k) = some (.bool (inS users n k)) := fun k hk => by
      have : (0 : Int) ≤ k ∧ (k : Int) < 8 := by omega
      simp -implicitDefEqProofs [xaV, this, fdV, inC, hk]
    refine loop_on [26] (fun s h' => StripesI users n h (s 27) (s 9) h') (fun s _ => (8 - num (s 27)).toNat)
      ⟨e2, 0, by omega, by simp, ⟨by simp [ssTo], .inl ⟨by simp, by simp [ssTo]⟩⟩, fun b hb => by simp [rowOf] at hb⟩ ?_
    rintro t h3 hft ⟨e3, k, hk8, t27, r9, f9⟩
    have t26 : t 26 = .agg (inC users n).toArray := by simpa using hft 26 (by simp)
    unfold d_hash_Stripes_9
    simp only [t27, bin_lss, ov_s, cd_b]
    refine ⟨fun hc2 => ?_, fun hc2 => ?_⟩
    · have hlt : k < 8 := by have : ((k : Int) < 8) := by simpa using hc2
                             omega
      have hw : IntKind.i64.wrap ((k : Int) + 1) = k + 1 := wrap64_id (by omega) (by omega)
      unfold d_hash_Stripes_10
      rw [seqM_eq]
      unfold d_hash_Stripes_11
      simp only [t26, t27, hx k hlt, ov_s, cd_b]
      refine ⟨fun hi => ?_, fun hi => ?_⟩
      · unfold d_hash_Stripes_12
        rw [t27]
        have hle := ssTo_le users n k
        refine app_one bsInt unSlInt apInt (by omega) (by simp) (by simp) r9 (by unfold maxLen; omega) (by omega) (by omega) fun a v9' h4 r9' k4 ha => ?_
        unfold d_hash_Stripes_13
        simp -implicitDefEqProofs [t27, t26, hw]
        refine ⟨⟨e3.keep k4 f9, k + 1, by omega, by simp, ?_, fun b hb => ?_⟩, by omega⟩
        · rw [ssTo_s, hi]
          simpa [natC] using r9'
        · rcases ha with ha | ⟨j, ha, hj⟩
          · exact f9 b (by rw [← ha]; exact hb)
          · rw [ha] at hb; simp only [Option.some.injEq] at hb; subst hb; exact fresh_of e3 hj
      · simp -implicitDefEqProofs [t27, t26, hw]
        refine ⟨⟨e3, k + 1, by omega, by simp, ?_, f9⟩, by omega⟩
        rw [ssTo_s, hi]
        simpa using r9
    · have : k = 8 := by have : ¬ ((k : Int) < 8) := by simpa using hc2
                         omega
      subst this
      simp -implicitDefEqProofs
      have := r9.fz w f9
      exact hk _ h3 e3 (Row.slE (enc := natC) (R := NatR) (fun _ => rfl) (fun _ => rfl) this)
end Go.Proofs.Ytcnphhhcknhhaaa
