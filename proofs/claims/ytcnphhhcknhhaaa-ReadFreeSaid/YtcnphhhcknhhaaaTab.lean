/- The table, its books, feeds and locks as plain data, and a reading, step by step: where it stands behind so many steps, that it writes nothing, and gives its locks back. No condition beyond the hypotheses that each theorem states. -/
import Derived.Test.YtcnphhhcknhhaaaDenB
import Derived.Laws.Strings
set_option linter.unusedSimpArgs false
set_option linter.unusedVariables false
/-! DEN, part Z: what the table's program and its reference speak of: sizes, sessions, books, events, ops. -/
namespace Go.Den
open Go
theorem str_inj {a b : ByteArray} (h : a.toList = b.toList) : a = b := by
  rw [Go.ByteArray.toList_eq, Go.ByteArray.toList_eq] at h
  cases a; cases b
  congr
  exact Array.toList_inj.1 h
theorem str_beq (a b : ByteArray) : (a.toList == b.toList) = decide (a = b) := by
  by_cases h : a = b
  · subst h; simp
  · have : ¬ a.toList = b.toList := fun e => h (str_inj e)
    simp [h, this]
@[simp] theorem bin_str_eq (t : Nat) (c : Bool) (a b : ByteArray) : binV .eql t c (.string a) (.string b) = some (.bool (decide (a = b))) := by
  show some (Value.bool _) = _
  rw [str_beq]
@[simp] theorem bin_str_ne (t : Nat) (c : Bool) (a b : ByteArray) : binV .neq t c (.string a) (.string b) = some (.bool (!decide (a = b))) := by
  show some (Value.bool _) = _
  rw [str_beq]
theorem str_empty (s : ByteArray) : s = ⟨#[]⟩ ↔ s.size = 0 := by
  constructor
  · rintro rfl; rfl
  · intro h; cases s with | mk d => congr; exact Array.eq_empty_of_size_eq_zero h
structure Cfg where
  stripes : Int
  sessions : Int
  queue : Int
  watches : Int
  retries : Int
  epochs : Int
  start : Int
def cfgC (c : Cfg) : List Value := [.int .i64 c.stripes, .int .i64 c.sessions, .int .i64 c.queue, .int .i64 c.watches, .int .i64 c.retries, .int .u64 c.epochs, .int .u64 c.start]
def I64 (n : Int) : Prop := -9223372036854775808 ≤ n ∧ n ≤ 9223372036854775807
def U64 (n : Int) : Prop := 0 ≤ n ∧ n ≤ 18446744073709551615
structure CfgW (c : Cfg) : Prop where
  i1 : I64 c.stripes
  i2 : I64 c.sessions
  i3 : I64 c.queue
  i4 : I64 c.watches
  i5 : I64 c.retries
  u1 : U64 c.epochs
  u2 : U64 c.start
def rightB (c : Cfg) : Bool := decide (1 ≤ c.stripes ∧ c.stripes ≤ 8 ∧ 1 ≤ c.sessions ∧ c.sessions ≤ 8 ∧ 1 ≤ c.queue ∧ c.queue ≤ 16 ∧ 1 ≤ c.watches ∧ c.watches ≤ 8 ∧ 0 ≤ c.retries ∧ c.retries ≤ 4)
structure OpD where
  kind : Int
  user : ByteArray
  id : Int
  status : Int
  prio : Int
  ttl : Int
  users : List ByteArray
def opC (x : OpD) (v : Value) : List Value := [.int .i64 x.kind, .string x.user, .int .i64 x.id, .int .i64 x.status, .int .i64 x.prio, .int .u64 x.ttl, v]
structure OpW (x : OpD) : Prop where
  i1 : I64 x.kind
  i2 : I64 x.id
  i3 : I64 x.status
  i4 : I64 x.prio
  u1 : U64 x.ttl
  s1 : x.user.size ≤ maxLen
theorem StrR.ext {h h' : Heap} {c : List Value} {x : ByteArray} (_ : Ext h h') (r : StrR h c x) : StrR h' c x := r
def OpR (h : Heap) (c : List Value) (x : OpD) : Prop := ∃ v, c = opC x v ∧ Sl 1 StrR h v x.users ∧ OpW x
theorem OpR.ext {h h' : Heap} {c : List Value} {x : OpD} (e : Ext h h') (r : OpR h c x) : OpR h' c x := let ⟨v, h1, h2, h3⟩ := r; ⟨v, h1, h2.ext (@StrR.ext) e, h3⟩
def nameB (s : ByteArray) : Bool := decide (0 < s.size ∧ s.size ≤ 16)
def badB (x : OpD) : Bool :=
  if x.kind = 1 then !(nameB x.user && decide (0 ≤ x.id ∧ x.id ≤ 255 ∧ 1 ≤ x.status ∧ x.status ≤ 9 ∧ 0 ≤ x.prio ∧ x.prio ≤ 9))
  else if x.kind = 2 ∨ x.kind = 3 then !(nameB x.user && decide (0 ≤ x.id ∧ x.id ≤ 255))
  else if x.kind = 4 ∨ x.kind = 6 ∨ x.kind = 7 then !nameB x.user
  else if x.kind = 5 then !(decide (1 ≤ x.users.length ∧ x.users.length ≤ 8) && x.users.all nameB)
  else !decide (x.kind = 8 ∨ x.kind = 9)
def shortB (x : OpD) : Bool := decide (x.user.size ≤ 40) && (decide (x.users.length ≤ 20) && x.users.all fun s => decide (s.size ≤ 40))
def usersOf (x : OpD) : List ByteArray := if x.kind = 4 then [x.user] else if x.kind = 5 then x.users else []
structure Sess where
  id : Int
  st : Int
  pr : Int
  un : Int
deriving DecidableEq
structure Pres where
  st : Int
  pr : Int
  lv : Int
deriving DecidableEq
structure Ent where
  ss : List Sess
  told : Pres
abbrev Book := List (ByteArray × Ent)
structure Evt where
  user : ByteArray
  old : Pres
  new : Pres
  seq : Int
structure Ring where
  room : Int
  l : List Evt
  lost : Bool
structure Feed where
  ws : List (ByteArray × Int)
  qs : Nat → Ring
structure Strp where
  who : Int
  v : Int
  bound : Int
  snap : Book
  book : Book
  feed : Feed
structure Tm where
  now : Int
  seq : Int
  closed : Bool
deriving DecidableEq
structure ActD where
  who : Int
  kind : Int
  place : Int
structure Hall where
  c : Cfg
  t : Tm
  n : Nat
  ss : Nat → Strp
  acts : List ActD
def sessC (s : Sess) : List Value := [.int .i64 s.id, .int .i64 s.st, .int .i64 s.pr, .int .u64 s.un]
def presC (p : Pres) : List Value := [.int .i64 p.st, .int .i64 p.pr, .int .i64 p.lv]
def evC (e : Evt) : List Value := .string e.user :: (presC e.old ++ presC e.new ++ [.int .u64 e.seq])
def tmC (t : Tm) : List Value := [.int .u64 t.now, .int .u64 t.seq, .bool t.closed]
def actC (a : ActD) : List Value := [.int .i64 a.who, .int .i64 a.kind, .int .i64 a.place]
def SessR (_ : Heap) (c : List Value) (s : Sess) : Prop := c = sessC s
def PresR (_ : Heap) (c : List Value) (p : Pres) : Prop := c = presC p
def EvR (_ : Heap) (c : List Value) (e : Evt) : Prop := c = evC e
def ActR (_ : Heap) (c : List Value) (a : ActD) : Prop := c = actC a
def EntR (h : Heap) (c : List Value) (e : Ent) : Prop := ∃ v, c = v :: presC e.told ∧ Sl 4 SessR h v e.ss
theorem SessR.ext {h h' : Heap} {c : List Value} {x : Sess} (_ : Ext h h') (r : SessR h c x) : SessR h' c x := r
theorem PresR.ext {h h' : Heap} {c : List Value} {x : Pres} (_ : Ext h h') (r : PresR h c x) : PresR h' c x := r
theorem EvR.ext {h h' : Heap} {c : List Value} {x : Evt} (_ : Ext h h') (r : EvR h c x) : EvR h' c x := r
theorem EntR.ext {h h' : Heap} {c : List Value} {x : Ent} (e : Ext h h') (r : EntR h c x) : EntR h' c x := let ⟨v, h1, h2⟩ := r; ⟨v, h1, h2.ext (@SessR.ext) e⟩
/-- A book: its keys, and their entries. -/
def BookR (h : Heap) (k v : Value) (b : Book) : Prop := Sl 1 StrR h k (b.map (·.1)) ∧ Sl 4 EntR h v (b.map (·.2))
theorem BookR.ext {h h' : Heap} {k v : Value} {b : Book} (e : Ext h h') (r : BookR h k v b) : BookR h' k v b := ⟨r.1.ext (@StrR.ext) e, r.2.ext (@EntR.ext) e⟩
theorem BookR.nil (h : Heap) : BookR h (.slice none 0 0) (.slice none 0 0) [] := ⟨.inl ⟨rfl, _, _, rfl⟩, .inl ⟨rfl, _, _, rfl⟩⟩
def MaskR (_ : Heap) (c : List Value) (m : Int) : Prop := c = [.int .u32 m]
theorem MaskR.ext {h h' : Heap} {c : List Value} {x : Int} (_ : Ext h h') (r : MaskR h c x) : MaskR h' c x := r
structure Reply where
  err : Int
  vals : List Pres
  evs : List Evt
  lost : Bool
/-- A reply's cells. -/
def RepR (h : Heap) (c : List Value) (r : Reply) : Prop := ∃ v w, c = [.int .i64 r.err, v, w, .bool r.lost] ∧ Sl 3 PresR h v r.vals ∧ Sl 8 EvR h w r.evs
theorem RepR.ext {h h' : Heap} {c : List Value} {x : Reply} (e : Ext h h') (r : RepR h c x) : RepR h' c x := let ⟨v, w, h1, h2, h3⟩ := r; ⟨v, w, h1, h2.ext (@PresR.ext) e, h3.ext (@EvR.ext) e⟩
/-! ### The table -/
def ring0 (room : Int) : Ring := ⟨max room 0, [], false⟩
def feed0 (room : Int) : Feed := ⟨[], fun _ => ring0 room⟩
/-- The greatest even number that is not greater: a bound. -/
def evn (b : Int) : Int := b - b % 2
def strp0 (c : Cfg) : Strp := ⟨0, 0, evn c.epochs, [], [], feed0 c.queue⟩
def hall0 (c : Cfg) (n : Nat) : Hall := ⟨c, ⟨c.start, 0, false⟩, n, fun _ => strp0 c, []⟩
def Hall.did (H : Hall) (who kind place : Int) : Hall := { H with acts := H.acts ++ [⟨who, kind, place⟩] }
def sput (f : Nat → Strp) (i : Nat) (x : Strp) : Nat → Strp := fun k => if k = i then x else f k
def Hall.put (H : Hall) (i : Nat) (x : Strp) : Hall := { H with ss := sput H.ss i x }
def Hall.epoch (H : Hall) (who : Int) (s : Nat) : Hall := H.did who 3 (4 * s + 2)
def Hall.snap (H : Hall) (who : Int) (s : Nat) : Hall := H.did who 3 (4 * s + 3)
def Hall.read (H : Hall) (who : Int) (s : Nat) : Hall := H.did who 1 (4 * s + 4)
def Hall.look (H : Hall) (who : Int) : Hall := H.did who 3 0
def wrt (v : Int) : Bool := v % 2 == 1
def bgn (v bound : Int) : Int := if v < bound ∧ wrt v = false then v + 1 else v
def Hall.begin (H : Hall) (who : Int) (s : Nat) : Hall := (H.did who 4 (4 * s + 2)).put s { H.ss s with v := bgn (H.ss s).v (H.ss s).bound }
def canTake (w who : Int) : Bool := decide (0 ≤ who) && decide (w = 0)
def canGive (w who : Int) : Bool := !decide (w = 0) && decide (w - 1 = who)
def Hall.lock (H : Hall) (who : Int) (s : Nat) : Hall := if canTake (H.ss s).who who then (H.did who 5 (4 * s + 1)).put s { H.ss s with who := who + 1 } else H
def Hall.unlock (H : Hall) (who : Int) (s : Nat) : Hall := if canGive (H.ss s).who who then (H.did who 6 (4 * s + 1)).put s { H.ss s with who := 0 } else H
end Go.Den

/-! DEN, part ZR: a reading, step by step. -/
namespace Go.Den
open Go
set_option linter.unusedVariables false
def fnvX (h b : Int) : Int := IntKind.u64.wrap (BitVec.ofInt 64 h ^^^ BitVec.ofInt 64 b).toNat
def fnvStep (h b : Int) : Int := IntKind.u64.wrap (fnvX h b * 1099511628211)
def byteAt (s : ByteArray) (i : Nat) : Int := match s[i]? with
  | some b => b.toNat
  | none => 0
def fnvTo (s : ByteArray) : Nat → Int
  | 0 => 14695981039346656037
  | i + 1 => fnvStep (fnvTo s i) (byteAt s i)
def fnv (s : ByteArray) : Int := fnvTo s s.size
theorem wrapU_rng (n : Int) : 0 ≤ IntKind.u64.wrap n ∧ IntKind.u64.wrap n ≤ 18446744073709551615 := by
  simp only [IntKind.wrap, IntKind.bits, IntKind.signed]
  simp
  omega
theorem wrapU_id {n : Int} (h0 : 0 ≤ n) (h1 : n ≤ 18446744073709551615) : IntKind.u64.wrap n = n := by
  simp only [IntKind.wrap, IntKind.bits, IntKind.signed]
  simp
  omega
theorem andNot1 (b : Int) (hb : U64 b) : IntKind.u64.wrap (BitVec.ofInt 64 b &&& ~~~BitVec.ofInt 64 1).toNat = evn b := by
  obtain ⟨n, rfl⟩ : ∃ n : Nat, b = n := ⟨b.toNat, by have := hb.1; omega⟩
  have hn : n < 18446744073709551616 := by have := hb.2; omega
  have e : (BitVec.ofInt 64 n &&& ~~~BitVec.ofInt 64 1).toNat = n / 2 * 2 := by
    rw [BitVec.toNat_and]
    have h0 : (BitVec.ofInt 64 (n : Int)).toNat = n := by simp; omega
    have h1 : (~~~BitVec.ofInt 64 1).toNat = (2 ^ 63 - 1) * 2 ^ 1 := by rfl
    rw [h0, h1]
    apply Nat.eq_of_testBit_eq
    intro i
    rw [Nat.testBit_and, Nat.testBit_mul_two_pow, Nat.testBit_two_pow_sub_one, show n / 2 * 2 = (n / 2) * 2 ^ 1 by omega, Nat.testBit_mul_two_pow, Nat.testBit_div_two]
    by_cases h : 1 ≤ i
    · rw [show i - 1 + 1 = i by omega]
      by_cases h2 : i - 1 < 63
      · simp [h, h2]
      · have : n.testBit i = false := Nat.testBit_lt_two_pow (Nat.lt_of_lt_of_le hn (by rw [show 18446744073709551616 = 2 ^ 64 by rfl]; exact Nat.pow_le_pow_right (by omega) (by omega)))
        simp [this]
    · simp [h]
  rw [e, wrapU_id (by omega) (by omega)]
  unfold evn; omega
theorem and1 (b : Int) (hb : U64 b) : IntKind.u64.wrap (BitVec.ofInt 64 b &&& BitVec.ofInt 64 1).toNat = b % 2 := by
  obtain ⟨n, rfl⟩ : ∃ n : Nat, b = n := ⟨b.toNat, by have := hb.1; omega⟩
  have hn : n < 18446744073709551616 := by have := hb.2; omega
  have e : (BitVec.ofInt 64 n &&& BitVec.ofInt 64 1).toNat = n % 2 := by
    rw [BitVec.toNat_and]
    have : (BitVec.ofInt 64 (n : Int)).toNat = n := by simp; omega
    rw [this]
    have : (BitVec.ofInt 64 1).toNat = 1 := by rfl
    rw [this, Nat.and_one_is_mod]
  rw [e, wrapU_id (by omega) (by omega)]
  omega
theorem bin_and1 (t : Nat) (c : Bool) {b : Int} (hb : U64 b) : binV .and t c (.int .u64 b) (.int .u64 1) = some (.int .u64 (b % 2)) := by
  have : binV .and t c (.int .u64 b) (.int .u64 1) = some (.int .u64 (IntKind.u64.wrap (BitVec.ofInt 64 b &&& BitVec.ofInt 64 1).toNat)) := rfl
  rw [this, and1 b hb]
theorem bin_andNot1 (t : Nat) (c : Bool) {b : Int} (hb : U64 b) : binV .andNot t c (.int .u64 b) (.int .u64 1) = some (.int .u64 (evn b)) := by
  have : binV .andNot t c (.int .u64 b) (.int .u64 1) = some (.int .u64 (IntKind.u64.wrap (BitVec.ofInt 64 b &&& ~~~BitVec.ofInt 64 1).toNat)) := rfl
  rw [this, andNot1 b hb]
theorem bin_fnvX (t : Nat) (c : Bool) (a b : Int) : binV .xor t c (.int .u64 a) (.int .u64 b) = some (.int .u64 (fnvX a b)) := rfl
theorem fnv_rng (s : ByteArray) : 0 ≤ fnv s ∧ fnv s ≤ 18446744073709551615 := by
  unfold fnv
  cases s.size with
  | zero => simp [fnvTo]
  | succ n => exact wrapU_rng _
def stripeOf (s : ByteArray) (n : Int) : Int := if n < 1 then 0 else fnv s % n
def inS (users : List ByteArray) (n : Int) (s : Nat) : Bool := users.any fun u => decide (stripeOf u n = s)
def stripesOf (users : List ByteArray) (n : Int) : List Nat := (List.range 8).filter (inS users n)
def late (now until_ : Int) : Bool := decide (until_ ≤ now)
def better (a b : Sess) : Bool := decide (b.pr < a.pr) || (decide (a.pr = b.pr) && decide (a.id < b.id))
/-- The best of the sessions that live, and how many they are. -/
def ofStep (now : Int) (x : Sess × Nat) (s : Sess) : Sess × Nat := if late now s.un then x else (if x.2 = 0 || better s x.1 then s else x.1, x.2 + 1)
def ofAcc (l : List Sess) (now : Int) : Sess × Nat := l.foldl (ofStep now) (⟨0, 0, 0, 0⟩, 0)
def presOf (l : List Sess) (now : Int) : Pres := ⟨(ofAcc l now).1.st, (ofAcc l now).1.pr, (ofAcc l now).2⟩
def ent0 : Ent := ⟨[], ⟨0, 0, 0⟩⟩
def entOf : Book → ByteArray → Ent
  | [], _ => ent0
  | (k, e) :: r, u => if k = u then e else entOf r u
def presB (b : Book) (u : ByteArray) (now : Int) : Pres := presOf (entOf b u).ss now
structure RP where
  who : Int
  users : List ByteArray
  of : Int
  ss : List Nat
  ph : Int
  at_ : Nat
  tries : Int
  ep : Nat → Int
  valid : Bool
  spent : Bool
  seen : Int → Option Book
  t : Tm
  looked : Int
  placed : Int
  err : Int
  vals : List Pres
def RP.k (p : RP) : Nat := p.ss.length
def RP.s (p : RP) : Nat := p.ss.getD p.at_ 0
def RP.begin (p : RP) : RP := { p with ph := 0, at_ := 0, ep := fun _ => 0, valid := true, spent := false, seen := fun _ => none }
def RP.tell (p : RP) (u : ByteArray) : Pres := presB ((p.seen (stripeOf u p.of)).getD []) u p.t.now
def RP.answer (p : RP) : RP := if p.t.closed then { p with placed := p.looked, err := 5, vals := [] } else { p with placed := p.looked, vals := p.vals ++ p.users.map p.tell }
def RP.next (p : RP) (ph : Int) : RP := if p.at_ + 1 < p.k then { p with at_ := p.at_ + 1 } else { p with ph := ph, at_ := 0 }
def RP.last (p : RP) : Bool := !decide (p.at_ + 1 < p.k)
def RP.judge (p : RP) : RP :=
  if p.t.closed || p.valid then { p.answer with ph := 8 }
  else if p.spent || decide (p.tries = 0) then { p with ph := 4 }
  else RP.begin { p with tries := p.tries - 1 }
def RP.enabled (p : RP) (H : Hall) : Bool := !decide (p.ph = 8) && (!decide (p.ph = 4) || decide ((H.ss p.s).who = 0))
def RP.waits (r : RP) : Int := if r.ph = 4 then r.s else -1
def epset (f : Nat → Int) (i : Nat) (v : Int) : Nat → Int := fun k => if k = i then v else f k
def seenset (f : Int → Option Book) (i : Int) (v : Book) : Int → Option Book := fun k => if k = i then some v else f k
def validB (a b bound : Int) : Bool := decide (a = b) && (decide (a % 2 = 0) && decide (a < evn bound))
/-- A step that may be done. -/
def RP.go (p : RP) (H : Hall) (n : Int) : RP × Hall :=
  if p.ph = 0 then (RP.next { p with ep := epset p.ep p.at_ (H.ss p.s).v, spent := p.spent || decide (evn H.c.epochs ≤ (H.ss p.s).v) } 1, H.epoch p.who p.s)
  else if p.ph = 1 then (RP.next { p with seen := seenset p.seen p.s (H.ss p.s).snap } 2, H.snap p.who p.s)
  else if p.ph = 2 then ({ p with t := H.t, looked := n, ph := 3 }, H.look p.who)
  else if p.ph = 5 then ({ p with t := H.t, looked := n, ph := 6, placed := n }, H.look p.who)
  else if p.ph = 3 then
    let q : RP := { p with valid := p.valid && validB (p.ep p.at_) (H.ss p.s).v H.c.epochs }
    (if q.last then (q.next 8).judge else q.next 8, H.epoch p.who p.s)
  else if p.ph = 4 then (p.next 5, H.lock p.who p.s)
  else if p.ph = 6 then (RP.next { p with seen := seenset p.seen p.s (H.ss p.s).book } 7, H.read p.who p.s)
  else (if p.last then (p.next 8).answer else p.next 8, H.unlock p.who p.s)
def RP.step (p : RP) (H : Hall) (n : Int) : RP × Hall :=
  if p.enabled H = false then (p, H) else if p.ss = [] then ({ p with err := 1, vals := [], placed := n, ph := 8 }, H) else p.go H n
def rp0 (H : Hall) (who : Int) (x : OpD) : RP :=
  let us := if badB x then [] else usersOf x
  RP.begin ⟨who, us, H.c.stripes, stripesOf us H.c.stripes, 0, 0, H.c.retries, fun _ => 0, false, false, fun _ => none, ⟨0, 0, false⟩, 0, -1, 0, []⟩
/-! What a process may stand at. -/
structure RP.Ok (p : RP) (n : Nat) : Prop where
  ss : ∀ s ∈ p.ss, s < n
  n8 : n ≤ 8
  nd : p.ss.Nodup
  kk : p.ss.length ≤ 8
  at_ : p.ph ≠ 8 → p.ss ≠ [] → p.at_ < p.k
  at2 : p.ph = 2 ∨ p.ph = 5 → p.at_ = 0
  us : p.users.length ≤ 8
  ph : 0 ≤ p.ph ∧ p.ph ≤ 8
  tr : 0 ≤ p.tries ∧ p.tries ≤ 4
  vn : p.ph ≠ 8 → p.vals = []
  so : ∀ u ∈ p.users, stripeOf u p.of < n
end Go.Den

/-! DEN, part ZB: texts in order; where a text stands among others. -/
namespace Go.Den
open Go
set_option linter.unusedVariables false
set_option linter.unusedSimpArgs false
def ltS (a b : ByteArray) : Bool := Op.bytesLess a.toList b.toList
theorem bl_irrefl : ∀ x : List UInt8, Op.bytesLess x x = false
  | [] => rfl
  | a :: x => by
    have : ¬ a < a := UInt8.lt_irrefl a
    simp [Op.bytesLess, this, bl_irrefl x]
theorem bl_trans : ∀ {x y z : List UInt8}, Op.bytesLess x y = true → Op.bytesLess y z = true → Op.bytesLess x z = true
  | _, _, [], _, h => by simp [Op.bytesLess] at h
  | [], _, _ :: _, _, _ => rfl
  | _ :: _, [], _, h, _ => by simp [Op.bytesLess] at h
  | a :: x, b :: y, c :: z, h1, h2 => by
    simp only [Op.bytesLess, Bool.or_eq_true, decide_eq_true_eq, Bool.and_eq_true, beq_iff_eq] at *
    rcases h1 with h1 | ⟨rfl, h1⟩
    · rcases h2 with h2 | ⟨rfl, h2⟩
      · exact .inl (UInt8.lt_trans h1 h2)
      · exact .inl h1
    · rcases h2 with h2 | ⟨rfl, h2⟩
      · exact .inl h2
      · exact .inr ⟨rfl, bl_trans h1 h2⟩
theorem bl_total : ∀ x y : List UInt8, Op.bytesLess x y = false → Op.bytesLess y x = false → x = y
  | [], [], _, _ => rfl
  | [], _ :: _, h, _ => by simp [Op.bytesLess] at h
  | _ :: _, [], _, h => by simp [Op.bytesLess] at h
  | a :: x, b :: y, h1, h2 => by
    simp only [Op.bytesLess, Bool.or_eq_false_iff, decide_eq_false_iff_not, Bool.and_eq_false_iff, beq_eq_false_iff_ne] at *
    have hab : a = b := by
      have h3 := h1.1
      have h4 := h2.1
      rw [UInt8.lt_iff_toNat_lt] at h3 h4
      exact UInt8.toNat_inj.1 (by omega)
    subst hab
    congr 1
    exact bl_total x y (by rcases h1.2 with h | h; exact absurd rfl h; exact h) (by rcases h2.2 with h | h; exact absurd rfl h; exact h)
theorem ltS_irrefl (a : ByteArray) : ltS a a = false := bl_irrefl _
theorem ltS_trans {a b c : ByteArray} (h : ltS a b = true) (k : ltS b c = true) : ltS a c = true := bl_trans h k
theorem ltS_total {a b : ByteArray} (h : ltS a b = false) (k : ltS b a = false) : a = b := str_inj (bl_total _ _ h k)
theorem ltS_asymm {a b : ByteArray} (h : ltS a b = true) : ltS b a = false := by
  cases k : ltS b a with
  | false => rfl
  | true => have := ltS_trans h k; rw [ltS_irrefl] at this; cases this
def SrtK (l : List ByteArray) : Prop := l.Pairwise fun a b => ltS a b = true
def pos (l : List ByteArray) (u : ByteArray) : Nat := (l.takeWhile fun k => ltS k u).length
theorem SrtK.at {l : List ByteArray} (s : SrtK l) {i j : Nat} (hi : i < j) (hj : j < l.length) : ltS (l[i]'(by omega)) l[j] = true := List.pairwise_iff_getElem.1 s i j (by omega) hj hi
/-- Where a text stands: all ahead are less, none from there on. -/
theorem pos_of {l : List ByteArray} (u : ByteArray) {i : Nat} (hi : i ≤ l.length) (h1 : ∀ k (hk : k < l.length), k < i → ltS l[k] u = true) (h2 : ∀ (hk : i < l.length), ltS l[i] u = false) : pos l u = i := by
  induction l generalizing i with
  | nil => simp at hi; subst hi; rfl
  | cons a l ih =>
    unfold pos
    cases i with
    | zero =>
      have := h2 (by simp)
      simp only [List.getElem_cons_zero] at this
      simp [List.takeWhile_cons, this]
    | succ i =>
      have h0 := h1 0 (by simp) (by omega)
      simp only [List.getElem_cons_zero] at h0
      have := ih (i := i) (by simpa using hi) (fun k hk hki => by have := h1 (k + 1) (by simpa using hk) (by omega); rwa [List.getElem_cons_succ] at this) (fun hk => by have := h2 (by simpa using hk); rwa [List.getElem_cons_succ] at this)
      unfold pos at this
      simp [List.takeWhile_cons, h0, this]
theorem pos_spec {l : List ByteArray} (s : SrtK l) (u : ByteArray) : pos l u ≤ l.length ∧ (∀ k (hk : k < l.length), k < pos l u → ltS l[k] u = true) ∧ (∀ k (hk : k < l.length), pos l u ≤ k → ltS l[k] u = false) := by
  induction l with
  | nil => simp [pos]
  | cons a l ih =>
    have s' : SrtK l := (List.pairwise_cons.1 s).2
    obtain ⟨h1, h2, h3⟩ := ih s'
    cases ha : ltS a u with
    | true =>
      have e : pos (a :: l) u = pos l u + 1 := by simp [pos, List.takeWhile_cons, ha]
      rw [e]
      refine ⟨by simpa using h1, fun k hk hkp => ?_, fun k hk hkp => ?_⟩
      · cases k with
        | zero => simpa using ha
        | succ k => rw [List.getElem_cons_succ]; exact h2 k (by simpa using hk) (by omega)
      · cases k with
        | zero => omega
        | succ k => rw [List.getElem_cons_succ]; exact h3 k (by simpa using hk) (by omega)
    | false =>
      have e : pos (a :: l) u = 0 := by simp [pos, List.takeWhile_cons, ha]
      rw [e]
      refine ⟨by omega, fun k hk hkp => by omega, fun k hk _ => ?_⟩
      cases k with
      | zero => simpa using ha
      | succ k =>
        have hk' : k < l.length := by simpa using hk
        have := (List.pairwise_cons.1 s).1 l[k] (List.getElem_mem _)
        rw [List.getElem_cons_succ]
        cases hk2 : ltS l[k] u with
        | false => rfl
        | true => rw [ltS_trans this hk2] at ha; cases ha
theorem mem_pos {l : List ByteArray} (s : SrtK l) (u : ByteArray) : u ∈ l ↔ ∃ h : pos l u < l.length, l[pos l u] = u := by
  obtain ⟨h1, h2, h3⟩ := pos_spec s u
  constructor
  · intro h
    obtain ⟨i, hi, rfl⟩ := List.getElem_of_mem h
    have hip : pos l l[i] = i := by
      refine pos_of _ (by omega) (fun k hk hki => s.at hki hi) (fun hk => ltS_irrefl _)
    exact ⟨by rw [hip]; exact hi, by simp only [hip]⟩
  · rintro ⟨h, e⟩; rw [← e]; exact List.getElem_mem _
/-! Books. -/
def keysB (b : Book) : List ByteArray := b.map (·.1)
def hasB (b : Book) (u : ByteArray) : Bool := (keysB b).any fun k => decide (k = u)
theorem hasB_iff {b : Book} {u : ByteArray} : hasB b u = true ↔ u ∈ keysB b := by simp [hasB]
theorem entOf_mem {b : Book} (s : SrtK (keysB b)) {i : Nat} (hi : i < b.length) : entOf b b[i].1 = b[i].2 := by
  induction b generalizing i with
  | nil => simp at hi
  | cons x b ih =>
    obtain ⟨k, e⟩ := x
    have s' : SrtK (keysB b) := (List.pairwise_cons.1 s).2
    cases i with
    | zero => simp [entOf]
    | succ i =>
      have hi' : i < b.length := by simpa using hi
      have hne : ¬ k = b[i].1 := fun h => by
        have := (List.pairwise_cons.1 s).1 b[i].1 (List.mem_map_of_mem (List.getElem_mem _))
        rw [h, ltS_irrefl] at this; cases this
      simp only [List.getElem_cons_succ, entOf, if_neg hne]
      exact ih s' hi'
theorem entOf_none {b : Book} {u : ByteArray} (h : u ∉ keysB b) : entOf b u = ent0 := by
  induction b with
  | nil => rfl
  | cons x b ih =>
    obtain ⟨k, e⟩ := x
    simp only [keysB, List.map_cons, List.mem_cons, not_or] at h
    simp only [entOf, if_neg (Ne.symm h.1)]
    exact ih h.2
/-- What a book must be for its readers. -/
structure BkG (b : Book) : Prop where
  so : SrtK (keysB b)
  len : b.length < 1000000
  ss : ∀ u, (entOf b u).ss.length < 1000000
theorem BkG.nil : BkG [] := ⟨List.Pairwise.nil, by simp, fun u => by simp [entOf, ent0]⟩
end Go.Den

/-! DEN, part ZC: a reading that nobody disturbs. -/
namespace Go.Den
open Go
set_option linter.unusedVariables false
set_option linter.unusedSimpArgs false
theorem RP.next_lt {p : RP} {ph : Int} (h : p.at_ + 1 < p.k) : p.next ph = { p with at_ := p.at_ + 1 } := if_pos h
theorem RP.next_ge {p : RP} {ph : Int} (h : ¬ p.at_ + 1 < p.k) : p.next ph = { p with ph := ph, at_ := 0 } := if_neg h
/-- What holds all along. -/
structure TrB (c : Cfg) (ss : List Nat) (us : List ByteArray) (p : RP) (H : Hall) : Prop where
  ss : p.ss = ss
  err : p.err = 0
  ep : ∀ j, p.ep j = 0
  hc : H.c = c
  cl : H.t.closed = false
  v0 : ∀ s, (H.ss s).v = 0
  us : p.users = us
  va : p.vals = []
def E0 (c : Cfg) : Bool := decide (evn c.epochs ≤ 0)
/-- Where it stands behind so many steps. -/
inductive Tr (c : Cfg) (ss : List Nat) (us : List ByteArray) (n : Nat) (p : RP) (H : Hall) : Prop
  | a (b : TrB c ss us p H) (w : ∀ s, (H.ss s).who = 0) (h : n < ss.length) (ph : p.ph = 0) (at_ : p.at_ = n) (va : p.valid = true) (sp : p.spent = (decide (0 < n) && E0 c))
  | b (b : TrB c ss us p H) (w : ∀ s, (H.ss s).who = 0) (h : ss.length ≤ n ∧ n < 2 * ss.length) (ph : p.ph = 1) (at_ : p.at_ = n - ss.length) (va : p.valid = true) (sp : p.spent = E0 c)
  | c (b : TrB c ss us p H) (w : ∀ s, (H.ss s).who = 0) (h : n = 2 * ss.length) (ph : p.ph = 2) (at_ : p.at_ = 0) (va : p.valid = true) (sp : p.spent = E0 c)
  | d (b : TrB c ss us p H) (w : ∀ s, (H.ss s).who = 0) (h : 2 * ss.length < n ∧ n ≤ 3 * ss.length) (ph : p.ph = 3) (at_ : p.at_ = n - 2 * ss.length - 1) (va : p.valid = (decide (n = 2 * ss.length + 1) || !E0 c)) (sp : p.spent = E0 c) (tc : p.t.closed = false) (lo : p.looked = (2 * ss.length : Nat))
  | e (h : n = 3 * ss.length + 1) (he : E0 c = false) (ph : p.ph = 8) (pl : p.placed = (2 * ss.length : Nat)) (er : p.err = 0) (vl : p.vals.length = us.length)
  | f (b : TrB c ss us p H) (w : ∀ j, p.at_ ≤ j → j < ss.length → (H.ss (ss.getD j 0)).who = 0) (h : 3 * ss.length + 1 ≤ n ∧ n < 4 * ss.length + 1) (he : E0 c = true) (ph : p.ph = 4) (at_ : p.at_ = n - 3 * ss.length - 1)
  | g (b : TrB c ss us p H) (h : n = 4 * ss.length + 1) (he : E0 c = true) (ph : p.ph = 5) (at_ : p.at_ = 0)
  | i (b : TrB c ss us p H) (h : 4 * ss.length + 2 ≤ n ∧ n < 5 * ss.length + 2) (he : E0 c = true) (ph : p.ph = 6) (at_ : p.at_ = n - 4 * ss.length - 2) (tc : p.t.closed = false) (lo : p.looked = (4 * ss.length + 1 : Nat)) (pl : p.placed = (4 * ss.length + 1 : Nat))
  | j (b : TrB c ss us p H) (h : 5 * ss.length + 2 ≤ n ∧ n < 6 * ss.length + 2) (he : E0 c = true) (ph : p.ph = 7) (at_ : p.at_ = n - 5 * ss.length - 2) (tc : p.t.closed = false) (lo : p.looked = (4 * ss.length + 1 : Nat)) (pl : p.placed = (4 * ss.length + 1 : Nat))
  | k (h : n = 6 * ss.length + 2) (he : E0 c = true) (ph : p.ph = 8) (pl : p.placed = (4 * ss.length + 1 : Nat)) (er : p.err = 0)
def Nof (c : Cfg) (ss : List Nat) : Nat := if E0 c then 6 * ss.length + 2 else 3 * ss.length + 1
theorem Tr.ph8 {c : Cfg} {ss : List Nat} {us : List ByteArray} {n : Nat} {p : RP} {H : Hall} (t : Tr c ss us n p H) (hk : 0 < ss.length) : (p.ph = 8 ↔ n = Nof c ss) ∧ n ≤ Nof c ss := by
  unfold Nof
  cases t with
  | a b w h ph at_ va sp => cases hE : E0 c <;> simp [ph] <;> omega
  | b b w h ph at_ va sp => cases hE : E0 c <;> simp [ph] <;> omega
  | c b w h ph at_ va sp => cases hE : E0 c <;> simp [ph] <;> omega
  | d b w h ph at_ va sp tc lo => cases hE : E0 c <;> simp [ph] <;> omega
  | e h he ph pl er vl => simp [ph, he]; omega
  | f b w h he ph at_ => simp [ph, he]; omega
  | g b h he ph at_ => simp [ph, he]; omega
  | i b h he ph at_ tc lo pl => simp [ph, he]; omega
  | j b h he ph at_ tc lo pl => simp [ph, he]; omega
  | k h he ph pl er => simp [ph, he]; omega
theorem TrB.lock {c : Cfg} {ss : List Nat} {us : List ByteArray} {p p' : RP} {H : Hall} (b : TrB c ss us p H) (who : Int) (s : Nat) (h1 : p'.ss = p.ss) (h2 : p'.err = p.err) (h3 : p'.ep = p.ep) (h4 : p'.users = p.users) (h5 : p'.vals = p.vals) : TrB c ss us p' (H.lock who s) := by
  refine ⟨h1.trans b.ss, h2.trans b.err, fun j => by rw [h3]; exact b.ep j, ?_, ?_, fun t => ?_, h4.trans b.us, h5.trans b.va⟩
  · unfold Hall.lock; split <;> exact b.hc
  · unfold Hall.lock; split <;> exact b.cl
  · unfold Hall.lock; split
    · simp only [Hall.put, sput, Hall.did]; split
      · rename_i h; exact b.v0 s
      · exact b.v0 t
    · exact b.v0 t
theorem TrB.unlock {c : Cfg} {ss : List Nat} {us : List ByteArray} {p p' : RP} {H : Hall} (b : TrB c ss us p H) (who : Int) (s : Nat) (h1 : p'.ss = p.ss) (h2 : p'.err = p.err) (h3 : p'.ep = p.ep) (h4 : p'.users = p.users) (h5 : p'.vals = p.vals) : TrB c ss us p' (H.unlock who s) := by
  refine ⟨h1.trans b.ss, h2.trans b.err, fun j => by rw [h3]; exact b.ep j, ?_, ?_, fun t => ?_, h4.trans b.us, h5.trans b.va⟩
  · unfold Hall.unlock; split <;> exact b.hc
  · unfold Hall.unlock; split <;> exact b.cl
  · unfold Hall.unlock; split
    · simp only [Hall.put, sput, Hall.did]; split
      · rename_i h; exact b.v0 s
      · exact b.v0 t
    · exact b.v0 t
theorem lock_who {H : Hall} {who : Int} {s t : Nat} (h : t ≠ s) : ((H.lock who s).ss t).who = (H.ss t).who := by
  unfold Hall.lock; split
  · simp [Hall.put, sput, Hall.did, h]
  · rfl
theorem Tr.next {c : Cfg} {ss : List Nat} {us : List ByteArray} {n : Nat} {p : RP} {H : Hall} (t : Tr c ss us n p H) (hk : 0 < ss.length) (nd : ss.Nodup) (hn : n < Nof c ss) (h0 : 0 ≤ c.epochs) : Tr c ss us (n + 1) (p.step H n).1 (p.step H n).2 := by
  have hne : ss ≠ [] := fun h => by rw [h] at hk; simp at hk
  have hstep : ∀ (b : TrB c ss us p H), p.enabled H = true → p.step H n = p.go H n := fun b he => by simp [RP.step, he, b.ss, hne]
  have hep : validB 0 0 c.epochs = !E0 c := by
    have : (decide (0 < evn c.epochs)) = !E0 c := by
      unfold E0; rw [← decide_not]; exact decide_eq_decide.2 (by omega)
    simp [validB, this]
  have did : ∀ (b : TrB c ss us p H) (p' : RP) (who kind pl : Int), p'.ss = p.ss → p'.err = p.err → (∀ j, p'.ep j = 0) → p'.users = p.users → p'.vals = p.vals → TrB c ss us p' (H.did who kind pl) := fun b p' who kind pl h1 h2 h3 h4 h5 => ⟨h1.trans b.ss, h2.trans b.err, h3, b.hc, b.cl, b.v0, h4.trans b.us, h5.trans b.va⟩
  cases t with
  | a b w h ph at_ va sp =>
    rw [hstep b (by simp [RP.enabled, ph])]
    have hk' : p.k = ss.length := by simp [RP.k, b.ss]
    have hsp : (p.spent || decide (evn H.c.epochs ≤ (H.ss p.s).v)) = E0 c := by
      rw [b.hc, b.v0, sp]
      show ((decide (0 < n) && E0 c) || E0 c) = E0 c
      cases E0 c <;> simp
    have hgo : p.go H n = (RP.next { p with ep := epset p.ep p.at_ (H.ss p.s).v, spent := p.spent || decide (evn H.c.epochs ≤ (H.ss p.s).v) } 1, H.epoch p.who p.s) := by simp [RP.go, ph]
    rw [hgo, hsp, b.v0]
    have he : ∀ j, epset p.ep p.at_ 0 j = 0 := fun j => by unfold epset; split; rfl; exact b.ep j
    by_cases hl : n + 1 < ss.length
    · have : RP.next { p with ep := epset p.ep p.at_ 0, spent := E0 c } 1 = { p with ep := epset p.ep p.at_ 0, spent := E0 c, at_ := n + 1 } := by
        refine (RP.next_lt ?_).trans ?_
        · show p.at_ + 1 < p.k; omega
        · simp [at_]
      rw [this]
      exact .a (did b _ _ _ _ rfl rfl he rfl rfl) w hl ph rfl va (by simp)
    · have : RP.next { p with ep := epset p.ep p.at_ 0, spent := E0 c } 1 = { p with ep := epset p.ep p.at_ 0, spent := E0 c, ph := 1, at_ := 0 } := by
        refine (RP.next_ge ?_).trans rfl
        show ¬ p.at_ + 1 < p.k; omega
      rw [this]
      exact .b (did b _ _ _ _ rfl rfl he rfl rfl) w (by omega) rfl (by simp; omega) va rfl
  | b b w h ph at_ va sp =>
    rw [hstep b (by simp [RP.enabled, ph])]
    have hk' : p.k = ss.length := by simp [RP.k, b.ss]
    have hgo : p.go H n = (RP.next { p with seen := seenset p.seen p.s (H.ss p.s).snap } 2, H.snap p.who p.s) := by simp [RP.go, ph]
    rw [hgo]
    by_cases hl : n + 1 < 2 * ss.length
    · have : RP.next { p with seen := seenset p.seen p.s (H.ss p.s).snap } 2 = { p with seen := seenset p.seen p.s (H.ss p.s).snap, at_ := p.at_ + 1 } := by
        refine (RP.next_lt ?_).trans rfl
        show p.at_ + 1 < p.k; omega
      rw [this]
      exact .b (did b _ _ _ _ rfl rfl b.ep rfl rfl) w (by omega) ph (by simp; omega) va sp
    · have : RP.next { p with seen := seenset p.seen p.s (H.ss p.s).snap } 2 = { p with seen := seenset p.seen p.s (H.ss p.s).snap, ph := 2, at_ := 0 } := by
        refine (RP.next_ge ?_).trans rfl
        show ¬ p.at_ + 1 < p.k; omega
      rw [this]
      exact .c (did b _ _ _ _ rfl rfl b.ep rfl rfl) w (by omega) rfl rfl va sp
  | c b w h ph at_ va sp =>
    rw [hstep b (by simp [RP.enabled, ph])]
    have hgo : p.go H n = ({ p with t := H.t, looked := n, ph := 3 }, H.look p.who) := by simp [RP.go, ph]
    rw [hgo]
    exact .d (did b _ _ _ _ rfl rfl b.ep rfl rfl) w (by omega) rfl (by simp; omega) (by simp [va, h]) sp b.cl (by simp [h])
  | d b w h ph at_ va sp tc lo =>
    rw [hstep b (by simp [RP.enabled, ph])]
    have hk' : p.k = ss.length := by simp [RP.k, b.ss]
    obtain ⟨q, hq⟩ : ∃ q : RP, q = { p with valid := p.valid && validB (p.ep p.at_) (H.ss p.s).v H.c.epochs } := ⟨_, rfl⟩
    have hgo : p.go H n = (if q.last then (q.next 8).judge else q.next 8, H.epoch p.who p.s) := by simp [RP.go, ph, hq]
    have hqv : q.valid = !E0 c := by
      rw [hq]
      show (p.valid && validB (p.ep p.at_) (H.ss p.s).v H.c.epochs) = !E0 c
      rw [b.ep, b.v0, b.hc, hep, va]
      cases E0 c <;> simp
    have q1 : q.ss = p.ss ∧ q.err = p.err ∧ q.ep = p.ep ∧ q.at_ = p.at_ ∧ q.k = p.k ∧ q.t = p.t ∧ q.looked = p.looked ∧ q.spent = p.spent ∧ q.ph = p.ph ∧ q.users = p.users ∧ q.vals = p.vals := by rw [hq]; exact ⟨rfl, rfl, rfl, rfl, rfl, rfl, rfl, rfl, rfl, rfl, rfl⟩
    obtain ⟨x1, x2, x3, x4, x5, x6, x7, x8, x9, x10, x11⟩ := q1
    rw [hgo]
    clear hgo hq
    by_cases hl : n + 1 ≤ 3 * ss.length
    · have hlast : q.last = false := by simp [RP.last, x4, x5, hk', at_]; omega
      rw [hlast]
      have : q.next 8 = { q with at_ := q.at_ + 1 } := RP.next_lt (by omega)
      simp only [Bool.false_eq_true, if_false, this]
      refine .d (did b _ _ _ _ x1 x2 (fun j => by show q.ep j = 0; rw [x3]; exact b.ep j) x10 x11) w (by omega) (x9.trans ph) (by show q.at_ + 1 = _; omega) ?_ (x8.trans sp) (by show q.t.closed = false; rw [x6]; exact tc) (x7.trans lo)
      show q.valid = _
      rw [hqv]
      have h2 : ¬ n = 2 * ss.length := by omega
      simp [h2]
    · have hlast : q.last = true := by simp [RP.last, x4, x5, hk', at_]; omega
      rw [hlast]
      have : q.next 8 = { q with ph := 8, at_ := 0 } := RP.next_ge (by omega)
      simp only [if_true, this]
      cases hE : E0 c with
      | false =>
        have hj : RP.judge { q with ph := 8, at_ := 0 } = { RP.answer { q with ph := 8, at_ := 0 } with ph := 8 } := by simp [RP.judge, hqv, hE]
        rw [hj]
        have ha : RP.answer { q with ph := 8, at_ := 0 } = { q with ph := 8, at_ := 0, placed := q.looked, vals := q.vals ++ q.users.map (RP.tell { q with ph := 8, at_ := 0 }) } := by simp [RP.answer, x6, tc]
        rw [ha]
        exact .e (by omega) hE rfl (x7.trans lo) (x2.trans b.err) (by simp [x11, b.va, x10, b.us])
      | true =>
        have hj : RP.judge { q with ph := 8, at_ := 0 } = { q with ph := 4, at_ := 0 } := by simp [RP.judge, hqv, hE, x6, tc, x8, sp]
        rw [hj]
        exact .f (did b _ _ _ _ x1 x2 (fun j => by show q.ep j = 0; rw [x3]; exact b.ep j) x10 x11) (fun j _ _ => w _) (by omega) hE rfl (by simp; omega)
  | e h he ph pl er vl => unfold Nof at hn; rw [he] at hn; simp at hn; omega
  | f b w h he ph at_ =>
    have hk' : p.k = ss.length := by simp [RP.k, b.ss]
    have hat : p.at_ < ss.length := by omega
    have hs : p.s = ss.getD p.at_ 0 := by simp [RP.s, b.ss]
    rw [hstep b (by simp [RP.enabled, ph, hs]; exact w _ (Nat.le_refl _) hat)]
    have hgo : p.go H n = (p.next 5, H.lock p.who p.s) := by simp [RP.go, ph]
    rw [hgo]
    by_cases hl : p.at_ + 1 < ss.length
    · have : p.next 5 = { p with at_ := p.at_ + 1 } := RP.next_lt (by omega)
      rw [this]
      refine .f (b.lock _ _ rfl rfl rfl rfl rfl) (fun j h1 h2 => ?_) (by omega) he ph (by simp; omega)
      have h1' : p.at_ + 1 ≤ j := h1
      rw [lock_who, w j (by omega) h2]
      rw [hs]
      intro e
      rw [List.getD_eq_getElem?_getD, List.getD_eq_getElem?_getD, List.getElem?_eq_getElem h2, List.getElem?_eq_getElem hat] at e
      exact List.pairwise_iff_getElem.1 nd p.at_ j hat h2 (by omega) (show ss[p.at_] = ss[j] from e.symm)
    · have : p.next 5 = { p with ph := 5, at_ := 0 } := RP.next_ge (by omega)
      rw [this]
      exact .g (b.lock _ _ rfl rfl rfl rfl rfl) (by omega) he rfl rfl
  | g b h he ph at_ =>
    rw [hstep b (by simp [RP.enabled, ph])]
    have hgo : p.go H n = ({ p with t := H.t, looked := n, ph := 6, placed := n }, H.look p.who) := by simp [RP.go, ph]
    rw [hgo]
    exact .i (did b _ _ _ _ rfl rfl b.ep rfl rfl) (by omega) he rfl (by simp; omega) b.cl (by simp [h]) (by simp [h])
  | i b h he ph at_ tc lo pl =>
    rw [hstep b (by simp [RP.enabled, ph])]
    have hk' : p.k = ss.length := by simp [RP.k, b.ss]
    have hgo : p.go H n = (RP.next { p with seen := seenset p.seen p.s (H.ss p.s).book } 7, H.read p.who p.s) := by simp [RP.go, ph]
    rw [hgo]
    by_cases hl : p.at_ + 1 < ss.length
    · have : RP.next { p with seen := seenset p.seen p.s (H.ss p.s).book } 7 = { p with seen := seenset p.seen p.s (H.ss p.s).book, at_ := p.at_ + 1 } := by
        refine (RP.next_lt ?_).trans rfl
        show p.at_ + 1 < p.k; omega
      rw [this]
      exact .i (did b _ _ _ _ rfl rfl b.ep rfl rfl) (by omega) he ph (by simp; omega) tc lo pl
    · have : RP.next { p with seen := seenset p.seen p.s (H.ss p.s).book } 7 = { p with seen := seenset p.seen p.s (H.ss p.s).book, ph := 7, at_ := 0 } := by
        refine (RP.next_ge ?_).trans rfl
        show ¬ p.at_ + 1 < p.k; omega
      rw [this]
      exact .j (did b _ _ _ _ rfl rfl b.ep rfl rfl) (by omega) he rfl (by simp; omega) tc lo pl
  | j b h he ph at_ tc lo pl =>
    rw [hstep b (by simp [RP.enabled, ph])]
    have hk' : p.k = ss.length := by simp [RP.k, b.ss]
    have hgo : p.go H n = (if p.last then (p.next 8).answer else p.next 8, H.unlock p.who p.s) := by simp [RP.go, ph]
    rw [hgo]
    by_cases hl : p.at_ + 1 < ss.length
    · have hlast : p.last = false := by simp [RP.last, hk', hl]
      have : p.next 8 = { p with at_ := p.at_ + 1 } := RP.next_lt (by omega)
      rw [hlast]
      simp only [Bool.false_eq_true, if_false, this]
      exact .j (b.unlock _ _ rfl rfl rfl rfl rfl) (by omega) he ph (by simp; omega) tc lo pl
    · have hlast : p.last = true := by simp [RP.last, hk', hl]
      have : p.next 8 = { p with ph := 8, at_ := 0 } := RP.next_ge (by omega)
      rw [hlast]
      simp only [if_true, this]
      have ha : RP.answer { p with ph := 8, at_ := 0 } = { p with ph := 8, at_ := 0, placed := p.looked, vals := p.vals ++ p.users.map (RP.tell { p with ph := 8, at_ := 0 }) } := by simp [RP.answer, tc]
      rw [ha]
      exact .k (by omega) he rfl lo b.err
  | k h he ph pl er => unfold Nof at hn; rw [he] at hn; simp at hn; omega
end Go.Den

/-! DEN, part ZD: what all steps keep. -/
namespace Go.Den
open Go
set_option linter.unusedVariables false
set_option linter.unusedSimpArgs false
/-- What a reading's helpers ask of it. -/
structure RG (r : RP) : Prop where
  us : r.users.length ≤ 1000
  of : r.of ≤ 1000
  k8 : r.k ≤ 8
  tr : 0 ≤ r.tries ∧ r.tries ≤ 4
  at_ : r.at_ < 1000000
  sn : ∀ i b, r.seen i = some b → BkG b
/-- What the steps of processes ask of a table. -/
structure HG (H : Hall) : Prop where
  n8 : H.n ≤ 8
  ac : H.acts.length < 900000
  sn : ∀ s, s < H.n → BkG (H.ss s).snap ∧ BkG (H.ss s).book
  uv : ∀ s, s < H.n → U64 (H.ss s).v ∧ U64 (H.ss s).bound
  wh : ∀ s, s < H.n → 0 ≤ (H.ss s).who ∧ (H.ss s).who ≤ 1000
  cw : CfgW H.c
  c8 : H.c.stripes ≤ 8
theorem HG.ac' {H : Hall} (x : HG H) : H.acts.length < 1000000 := by have := x.ac; omega
/-- Where a reading may stand. -/
structure RS (r : RP) (H : Hall) : Prop where
  at_ : r.ph ≠ 8 → r.ss ≠ [] → r.at_ < r.k
  ss : ∀ s ∈ r.ss, s < H.n
  vn : r.ph ≠ 8 → r.vals = []
  ph : 0 ≤ r.ph ∧ r.ph ≤ 8
  e0 : r.ss = [] → r.ph = 0 ∨ r.ph = 8
  ep : ∀ i, i < r.k → U64 (r.ep i)
  wr : -1000 ≤ r.who ∧ r.who ≤ 900
theorem RP.s_lt {r : RP} (h : r.at_ < r.k) : r.s = r.ss[r.at_]'h := by
  show r.ss.getD r.at_ 0 = _
  rw [List.getD_eq_getElem?_getD, List.getElem?_eq_getElem h]; rfl
theorem HG.did {H : Hall} (x : HG H) (w k p : Int) (h : H.acts.length + 1 < 900000) : HG (H.did w k p) := ⟨x.n8, by simp [Hall.did]; omega, x.sn, x.uv, x.wh, x.cw, x.c8⟩
theorem HG.put {H : Hall} (x : HG H) {s : Nat} {y : Strp} (h1 : BkG y.snap ∧ BkG y.book) (h2 : U64 y.v ∧ U64 y.bound) (h3 : 0 ≤ y.who ∧ y.who ≤ 1000) : HG (H.put s y) :=
  ⟨x.n8, x.ac, fun t ht => by simp only [Hall.put, sput]; split; exact h1; exact x.sn t ht, fun t ht => by simp only [Hall.put, sput]; split; exact h2; exact x.uv t ht, fun t ht => by simp only [Hall.put, sput]; split; exact h3; exact x.wh t ht, x.cw, x.c8⟩
theorem HG.lock {H : Hall} (x : HG H) {w : Int} {s : Nat} (hs : s < H.n) (hw : w ≤ 900) (h : H.acts.length + 1 < 900000) : HG (H.lock w s) := by
  unfold Hall.lock
  split
  · rename_i hc
    have hc' : 0 ≤ w ∧ (H.ss s).who = 0 := by simpa [canTake] using hc
    exact (x.did _ _ _ h).put (x.sn s hs) (x.uv s hs) (by simp; omega)
  · exact x
theorem HG.unlock {H : Hall} (x : HG H) {w : Int} {s : Nat} (hs : s < H.n) (h : H.acts.length + 1 < 900000) : HG (H.unlock w s) := by
  unfold Hall.unlock
  split
  · exact (x.did _ _ _ h).put (x.sn s hs) (x.uv s hs) (by simp)
  · exact x
theorem lock_n (H : Hall) (w : Int) (s : Nat) : (H.lock w s).n = H.n ∧ (H.lock w s).c = H.c ∧ (H.lock w s).acts.length ≤ H.acts.length + 1 := by
  unfold Hall.lock; split
  · exact ⟨rfl, rfl, by simp [Hall.put, Hall.did]⟩
  · exact ⟨rfl, rfl, by omega⟩
theorem unlock_n (H : Hall) (w : Int) (s : Nat) : (H.unlock w s).n = H.n ∧ (H.unlock w s).c = H.c ∧ (H.unlock w s).acts.length ≤ H.acts.length + 1 := by
  unfold Hall.unlock; split
  · exact ⟨rfl, rfl, by simp [Hall.put, Hall.did]⟩
  · exact ⟨rfl, rfl, by omega⟩
/-- What of a process stays, and what of it a step makes. -/
structure RK (n : Nat) (r : RP) : Prop where
  rg : RG r
  at_ : r.ph ≠ 8 → r.ss ≠ [] → r.at_ < r.k
  ss : ∀ s ∈ r.ss, s < n
  vn : r.ph ≠ 8 → r.vals = []
  ph : 0 ≤ r.ph ∧ r.ph ≤ 8
  e0 : r.ss = [] → r.ph = 0 ∨ r.ph = 8
  ep : ∀ i, i < r.k → U64 (r.ep i)
  wr : -1000 ≤ r.who ∧ r.who ≤ 900
theorem RK.rs {r : RP} {H : Hall} (x : RK H.n r) : RS r H := ⟨x.at_, x.ss, x.vn, x.ph, x.e0, x.ep, x.wr⟩
theorem RK.next {n : Nat} {r : RP} (x : RK n r) (h8 : r.ph ≠ 8) (h0 : r.ss ≠ []) {ph : Int} (hp : 0 ≤ ph ∧ ph ≤ 8) : RK n (r.next ph) := by
  have hk : 0 < r.k := by unfold RP.k; exact List.length_pos_iff.2 h0
  have g := x.rg
  have k8 := g.k8
  by_cases hl : r.at_ + 1 < r.k
  · rw [RP.next_lt hl]
    exact ⟨⟨g.us, g.of, g.k8, g.tr, by simp; omega, g.sn⟩, fun _ _ => hl, x.ss, fun _ => x.vn h8, x.ph, fun h => absurd h h0, x.ep, x.wr⟩
  · rw [RP.next_ge hl]
    exact ⟨⟨g.us, g.of, g.k8, g.tr, by simp, g.sn⟩, fun _ _ => hk, x.ss, fun _ => x.vn h8, hp, fun h => absurd h h0, x.ep, x.wr⟩
theorem RK.begin {n : Nat} {r : RP} (x : RK n r) (hv : r.vals = []) : RK n r.begin := by
  have g := x.rg
  exact ⟨⟨g.us, g.of, g.k8, g.tr, by simp [RP.begin], fun i b h => by simp [RP.begin] at h⟩, fun _ h0 => by show 0 < r.k; unfold RP.k; exact List.length_pos_iff.2 h0, x.ss, fun _ => hv, by simp [RP.begin], fun _ => .inl rfl, fun i _ => by simp [RP.begin, U64], x.wr⟩
theorem RK.answer {n : Nat} {r : RP} (x : RK n r) (h0 : r.ss ≠ []) {ph : Int} (hp : ph = 8) : RK n { r.answer with ph := ph } := by
  have g := x.rg
  subst hp
  unfold RP.answer
  split
  · exact ⟨⟨g.us, g.of, g.k8, g.tr, g.at_, g.sn⟩, fun h => absurd rfl h, x.ss, fun h => absurd rfl h, by simp, fun h => absurd h h0, x.ep, x.wr⟩
  · exact ⟨⟨g.us, g.of, g.k8, g.tr, g.at_, g.sn⟩, fun h => absurd rfl h, x.ss, fun h => absurd rfl h, by simp, fun h => absurd h h0, x.ep, x.wr⟩
theorem answer_ph (r : RP) : r.answer.ph = r.ph := by unfold RP.answer; split <;> rfl
theorem RK.judge {n : Nat} {r : RP} (x : RK n r) (h0 : r.ss ≠ []) (hv : r.vals = []) (hat : r.at_ < r.k) : RK n r.judge := by
  have g := x.rg
  unfold RP.judge
  split
  · exact x.answer h0 rfl
  · split
    · exact ⟨⟨g.us, g.of, g.k8, g.tr, g.at_, g.sn⟩, fun _ _ => hat, x.ss, fun _ => hv, by simp, fun h => absurd h h0, x.ep, x.wr⟩
    · rename_i h1 h2
      have ht : ¬ r.tries = 0 := by intro h; simp [h] at h2
      have := g.tr
      refine RK.begin (r := { r with tries := r.tries - 1 }) ⟨⟨g.us, g.of, g.k8, by simp; omega, g.at_, g.sn⟩, x.at_, x.ss, x.vn, x.ph, x.e0, x.ep, x.wr⟩ hv
theorem RK.step {r : RP} {H : Hall} (x : RK H.n r) (g : HG H) (n : Int) (ha : H.acts.length + 1 < 900000) :
    RK H.n (r.step H n).1 ∧ HG (r.step H n).2 ∧ (r.step H n).2.n = H.n ∧ (r.step H n).2.c = H.c ∧ (r.step H n).2.acts.length ≤ H.acts.length + 1 := by
  have rg := x.rg
  unfold RP.step
  split
  · exact ⟨x, g, rfl, rfl, Nat.le_succ _⟩
  rename_i hen
  have hen : r.enabled H = true := by simpa using hen
  have h8 : ¬ r.ph = 8 := fun h => by simp [RP.enabled, h] at hen
  split
  · rename_i h0
    exact ⟨⟨⟨rg.us, rg.of, rg.k8, rg.tr, rg.at_, rg.sn⟩, fun h => absurd rfl h, x.ss, fun _ => rfl, by simp, fun _ => .inr rfl, x.ep, x.wr⟩, g, rfl, rfl, Nat.le_succ _⟩
  rename_i h0
  have hat := x.at_ h8 h0
  have hs : r.s < H.n := by rw [RP.s_lt hat]; exact x.ss _ (List.getElem_mem _)
  have hv := x.vn h8
  have hw := x.wr
  have did : ∀ k p : Int, HG (H.did r.who k p) ∧ (H.did r.who k p).n = H.n ∧ (H.did r.who k p).c = H.c ∧ (H.did r.who k p).acts.length ≤ H.acts.length + 1 := fun k p => ⟨g.did _ _ _ ha, rfl, rfl, by simp [Hall.did]⟩
  unfold RP.go
  split
  · refine ⟨RK.next (r := { r with ep := epset r.ep r.at_ (H.ss r.s).v, spent := r.spent || decide (evn H.c.epochs ≤ (H.ss r.s).v) }) ⟨⟨rg.us, rg.of, rg.k8, rg.tr, rg.at_, rg.sn⟩, x.at_, x.ss, x.vn, x.ph, x.e0, fun i hi => ?_, x.wr⟩ h8 h0 (by omega), did _ _⟩
    simp only [epset]; split
    · exact (g.uv _ hs).1
    · exact x.ep i hi
  split
  · refine ⟨RK.next (r := { r with seen := seenset r.seen r.s (H.ss r.s).snap }) ⟨⟨rg.us, rg.of, rg.k8, rg.tr, rg.at_, fun i b h => ?_⟩, x.at_, x.ss, x.vn, x.ph, x.e0, x.ep, x.wr⟩ h8 h0 (by omega), did _ _⟩
    simp only [seenset] at h; split at h
    · cases h; exact (g.sn _ hs).1
    · exact rg.sn i b h
  split
  · exact ⟨⟨⟨rg.us, rg.of, rg.k8, rg.tr, rg.at_, rg.sn⟩, fun _ _ => hat, x.ss, fun _ => hv, by simp, fun h => absurd h h0, x.ep, x.wr⟩, did _ _⟩
  split
  · exact ⟨⟨⟨rg.us, rg.of, rg.k8, rg.tr, rg.at_, rg.sn⟩, fun _ _ => hat, x.ss, fun _ => hv, by simp, fun h => absurd h h0, x.ep, x.wr⟩, did _ _⟩
  split
  · have y : RK H.n { r with valid := r.valid && validB (r.ep r.at_) (H.ss r.s).v H.c.epochs } := ⟨⟨rg.us, rg.of, rg.k8, rg.tr, rg.at_, rg.sn⟩, x.at_, x.ss, x.vn, x.ph, x.e0, x.ep, x.wr⟩
    refine ⟨?_, did _ _⟩
    have yn := y.next h8 h0 (ph := 8) (by omega)
    show RK H.n (if RP.last { r with valid := r.valid && validB (r.ep r.at_) (H.ss r.s).v H.c.epochs } then RP.judge (RP.next { r with valid := r.valid && validB (r.ep r.at_) (H.ss r.s).v H.c.epochs } 8) else RP.next { r with valid := r.valid && validB (r.ep r.at_) (H.ss r.s).v H.c.epochs } 8)
    split
    · rename_i hl
      have hl' : (!decide (r.at_ + 1 < r.k)) = true := hl
      have hge : ¬ r.at_ + 1 < r.k := by simpa using hl'
      have e := RP.next_ge (p := { r with valid := r.valid && validB (r.ep r.at_) (H.ss r.s).v H.c.epochs }) (ph := 8) hge
      refine yn.judge (by rw [e]; exact h0) (by rw [e]; exact hv) (by rw [e]; show 0 < r.k; omega)
    · exact yn
  split
  · exact ⟨x.next h8 h0 (by omega), g.lock hs hw.2 ha, lock_n _ _ _⟩
  split
  · refine ⟨RK.next (r := { r with seen := seenset r.seen r.s (H.ss r.s).book }) ⟨⟨rg.us, rg.of, rg.k8, rg.tr, rg.at_, fun i b h => ?_⟩, x.at_, x.ss, x.vn, x.ph, x.e0, x.ep, x.wr⟩ h8 h0 (by omega), did _ _⟩
    simp only [seenset] at h; split at h
    · cases h; exact (g.sn _ hs).2
    · exact rg.sn i b h
  · refine ⟨?_, g.unlock hs ha, unlock_n _ _ _⟩
    have yn := x.next h8 h0 (ph := 8) (by omega)
    show RK H.n (if r.last then (r.next 8).answer else r.next 8)
    split
    · rename_i hl
      have hl' : (!decide (r.at_ + 1 < r.k)) = true := hl
      have hge : ¬ r.at_ + 1 < r.k := by simpa using hl'
      have e := RP.next_ge (p := r) (ph := 8) hge
      have := yn.answer (by rw [e]; exact h0) rfl (ph := 8)
      have e8 : (r.next 8).answer.ph = 8 := by rw [answer_ph, e]
      have ee : ∀ q : RP, q.ph = 8 → { q with ph := 8 } = q := fun q h => by cases q; simp at h; subst h; rfl
      rw [ee _ e8] at this
      exact this
    · exact yn
end Go.Den

/-! DEN, part ZE: how a table and a reading begin. -/
namespace Go.Den
open Go
set_option linter.unusedVariables false
set_option linter.unusedSimpArgs false
theorem evn_u {b : Int} (hb : U64 b) : U64 (evn b) := by unfold U64 evn at *; omega
theorem HG.hall0 {c : Cfg} (cw : CfgW c) (hr : rightB c = true) : HG (hall0 c c.stripes.toNat) := by
  have h8 : 1 ≤ c.stripes ∧ c.stripes ≤ 8 := by simp [rightB] at hr; omega
  exact ⟨by simp [Den.hall0]; omega, by simp [Den.hall0], fun s _ => ⟨BkG.nil, BkG.nil⟩, fun s _ => ⟨by simp [Den.hall0, strp0, U64], by simpa [Den.hall0, strp0] using evn_u cw.u1⟩, fun s _ => by simp [Den.hall0, strp0], cw, h8.2⟩
theorem stripesOf_lt {us : List ByteArray} {n : Int} (hn : 1 ≤ n) : ∀ s ∈ stripesOf us n, (s : Int) < n := by
  intro s hs
  simp only [stripesOf, List.mem_filter, inS, List.any_eq_true, decide_eq_true_eq] at hs
  obtain ⟨_, u, _, hu⟩ := hs
  rw [← hu]
  unfold stripeOf
  rw [if_neg (by omega)]
  exact Int.emod_lt_of_pos _ (by omega)
theorem stripesOf_pos {us : List ByteArray} {n : Int} (hn : 1 ≤ n) (h8 : n ≤ 8) (hu : us ≠ []) : 0 < (stripesOf us n).length := by
  obtain ⟨u, us', rfl⟩ := List.exists_cons_of_ne_nil hu
  refine List.length_pos_of_mem (a := (stripeOf u n).toNat) ?_
  have h : 0 ≤ stripeOf u n ∧ stripeOf u n < n := by
    unfold stripeOf
    rw [if_neg (by omega)]
    exact ⟨Int.emod_nonneg _ (by omega), Int.emod_lt_of_pos _ (by omega)⟩
  simp only [stripesOf, List.mem_filter, List.mem_range, inS, List.any_cons, Bool.or_eq_true, decide_eq_true_eq]
  exact ⟨by omega, .inl (by omega)⟩
theorem stripesOf_nodup (us : List ByteArray) (n : Int) : (stripesOf us n).Nodup := List.Pairwise.filter _ List.nodup_range
theorem stripesOf_le (us : List ByteArray) (n : Int) : (stripesOf us n).length ≤ 8 := by
  have := List.length_filter_le (inS us n) (List.range 8)
  simpa [stripesOf] using this
theorem stripesOf_nil (n : Int) : stripesOf [] n = [] := by simp [stripesOf, inS]
theorem usersOf_bad {x : OpD} (h : badB x = false) (hk : x.kind = 4 ∨ x.kind = 5) : usersOf x ≠ [] ∧ (usersOf x).length ≤ 8 := by
  unfold badB at h
  unfold usersOf
  rcases hk with hk | hk
  · simp [hk]
  · simp [hk] at h ⊢
    constructor
    · intro e; rw [e] at h; simp at h
    · omega
theorem RK.rp0 {H : Hall} (hg : HG H) (hn : H.n = H.c.stripes.toNat) (h1 : 1 ≤ H.c.stripes) (tr : 0 ≤ H.c.retries ∧ H.c.retries ≤ 4) (who : Int) (hw : -1000 ≤ who ∧ who ≤ 900) (x : OpD) (hx : badB x = false → (usersOf x).length ≤ 8) : RK H.n (rp0 H who x) := by
  have hul : (if badB x then ([] : List ByteArray) else usersOf x).length ≤ 8 := by
    cases hb : badB x with
    | true => simp
    | false => simpa using hx hb
  have c8 := hg.c8
  refine ⟨⟨by simp only [Den.rp0, RP.begin]; omega, by simp only [Den.rp0, RP.begin]; omega, stripesOf_le _ _, tr, by simp [Den.rp0, RP.begin], fun i b h => by simp [Den.rp0, RP.begin] at h⟩, fun _ h0 => by simpa [Den.rp0, RP.begin, RP.k] using List.length_pos_iff.2 h0, fun s hs => ?_, fun _ => rfl, by simp [Den.rp0, RP.begin], fun _ => .inl rfl, fun i _ => by simp [Den.rp0, RP.begin, U64], hw⟩
  have := stripesOf_lt h1 s hs
  omega
theorem Tr.start {c : Cfg} {who : Int} {x : OpD} (hb : badB x = false) (hk : x.kind = 4 ∨ x.kind = 5) (h1 : 1 ≤ c.stripes) (h8 : c.stripes ≤ 8) : Tr c (stripesOf (usersOf x) c.stripes) (usersOf x) 0 (rp0 (hall0 c c.stripes.toNat) who x) (hall0 c c.stripes.toNat) := by
  have hu := usersOf_bad hb hk
  refine .a ⟨by simp [rp0, RP.begin, hb, hall0], rfl, fun _ => rfl, rfl, rfl, fun _ => rfl, by simp [rp0, RP.begin, hb], rfl⟩ (fun _ => rfl) (stripesOf_pos h1 h8 hu.1) rfl rfl rfl (by simp [rp0, RP.begin])
end Go.Den

/-! DEN, part ZF: a reading writes nothing, and gives its locks back. -/
namespace Go.Den
open Go
set_option linter.unusedVariables false
set_option linter.unusedSimpArgs false
def bal : List ActD → Int
  | [] => 0
  | x :: l => (if x.kind = 5 then 1 else 0) - (if x.kind = 6 then 1 else 0) + bal l
theorem bal_app : ∀ (l m : List ActD), bal (l ++ m) = bal l + bal m
  | [], m => by simp [bal]
  | x :: l, m => by simp only [List.cons_append, bal, bal_app l m]; omega
def held (p : RP) : Int := if p.ph < 4 then 0 else if p.ph = 4 then p.at_ else if p.ph ≤ 6 then p.k else if p.ph = 7 then p.k - p.at_ else 0
def wantW (p : RP) (j : Nat) : Int := if p.ph < 4 then 0 else if p.ph = 4 then (if j < p.at_ then 1 else 0) else if p.ph ≤ 6 then 1 else if p.ph = 7 then (if j < p.at_ then 0 else 1) else 0
def sz (p : RP) : Int := 3 * p.k + 1
def leftT (p : RP) : Int :=
  if p.ph = 0 then sz p - p.at_ + p.tries * sz p + sz p
  else if p.ph = 1 then sz p - p.k - p.at_ + p.tries * sz p + sz p
  else if p.ph = 2 then sz p - 2 * p.k + p.tries * sz p + sz p
  else if p.ph = 3 then p.k - p.at_ + p.tries * sz p + sz p
  else if p.ph = 4 then sz p - p.at_
  else if p.ph = 5 then sz p - p.k
  else if p.ph = 6 then 2 * p.k - p.at_
  else if p.ph = 7 then p.k - p.at_
  else 0
structure RF (c : Cfg) (ss : List Nat) (a0 n : Nat) (p : RP) (H : Hall) : Prop where
  who : p.who = 0
  hs : p.ss = ss
  hc : H.c = c
  la : a0 ≤ H.acts.length
  ac : ∀ x ∈ H.acts.drop a0, x.kind ≠ 2 ∧ x.kind ≠ 4 ∧ x.who = 0
  ba : bal (H.acts.drop a0) = held p
  ws : ∀ j, j < ss.length → (H.ss (ss.getD j 0)).who = wantW p j
  tm : n + leftT p ≤ (c.retries + 2) * (3 * ss.length + 1)
theorem drop_did {H : Hall} {a0 : Nat} (h : a0 ≤ H.acts.length) (w k p : Int) : (H.did w k p).acts.drop a0 = H.acts.drop a0 ++ [⟨w, k, p⟩] := by
  simp only [Hall.did]; rw [List.drop_append_of_le_length h]
theorem getD_ne {ss : List Nat} (nd : ss.Nodup) {i j : Nat} (hi : i < ss.length) (hj : j < ss.length) (h : i ≠ j) : ss.getD i 0 ≠ ss.getD j 0 := by
  rw [List.getD_eq_getElem?_getD, List.getD_eq_getElem?_getD, List.getElem?_eq_getElem hi, List.getElem?_eq_getElem hj]
  simp only [Option.getD_some]
  rcases Nat.lt_or_gt_of_ne h with h | h
  · exact List.pairwise_iff_getElem.1 nd i j hi hj h
  · exact fun e => List.pairwise_iff_getElem.1 nd j i hj hi h e.symm
/-- An act that is kept, of a process that goes on. -/
theorem RF.did {c : Cfg} {ss : List Nat} {a0 n : Nat} {p : RP} {H : Hall} (f : RF c ss a0 n p H) {q : RP} {k pl : Int} (hk : k ≠ 2 ∧ k ≠ 4 ∧ k ≠ 5 ∧ k ≠ 6) (h1 : q.who = p.who) (h2 : q.ss = p.ss) (h3 : held q = held p) (h4 : ∀ j, wantW q j = wantW p j) (h5 : leftT q + 1 ≤ leftT p) : RF c ss a0 (n + 1) q (H.did p.who k pl) := by
  refine ⟨h1.trans f.who, h2.trans f.hs, f.hc, by simp [Hall.did]; have := f.la; omega, fun x hx => ?_, ?_, fun j hj => by rw [h4]; exact f.ws j hj, by have := f.tm; omega⟩
  · rw [drop_did f.la] at hx
    rcases List.mem_append.1 hx with hx | hx
    · exact f.ac x hx
    · simp only [List.mem_singleton] at hx; subst hx; exact ⟨hk.1, hk.2.1, f.who⟩
  · rw [drop_did f.la, bal_app, f.ba, h3]; simp [bal, hk.2.2.1, hk.2.2.2]
theorem RF.next {c : Cfg} {ss : List Nat} {a0 n : Nat} {p : RP} {H : Hall} (f : RF c ss a0 n p H) (rk : RK H.n p) (nd : ss.Nodup) (h0 : ss ≠ []) (h8 : p.ph ≠ 8) : RF c ss a0 (n + 1) (p.step H n).1 (p.step H n).2 := by
  have hne : p.ss ≠ [] := by rw [f.hs]; exact h0
  have hk : p.k = ss.length := by simp [RP.k, f.hs]
  have hkl : p.ss.length = ss.length := by rw [f.hs]
  have hat := rk.at_ h8 hne
  have hph := rk.ph
  have hs : p.s = ss.getD p.at_ 0 := by simp [RP.s, f.hs]
  have htr := rk.rg.tr
  have hw := f.ws p.at_ (by omega)
  rw [← hs] at hw
  have hen : p.enabled H = true := by
    by_cases h4 : p.ph = 4
    · simp [RP.enabled, h4, hw, wantW]
    · simp [RP.enabled, h4, h8]
  have hst : p.step H n = p.go H n := by simp [RP.step, hen, hne]
  rw [hst]
  have hsz : ∀ q : RP, q.ss = p.ss → sz q = sz p ∧ q.k = p.k := fun q h => by simp [sz, RP.k, h]
  have hT : 0 ≤ p.tries * sz p := Int.mul_nonneg htr.1 (by unfold sz; omega)
  unfold RP.go
  split
  · rename_i p0
    refine f.did (by decide) ?_ ?_ ?_ (fun j => ?_) ?_
    · unfold RP.next; split <;> rfl
    · unfold RP.next; split <;> rfl
    · unfold RP.next; split <;> simp [held, p0]
    · unfold RP.next; split <;> simp [wantW, p0]
    · by_cases hl : p.at_ + 1 < p.k
      · rw [RP.next_lt (by exact hl)]
        show leftT { p with at_ := p.at_ + 1, ep := _, spent := _ } + 1 ≤ _
        simp [leftT, p0, sz, RP.k]; omega
      · rw [RP.next_ge (by exact hl)]
        show leftT { p with ph := 1, at_ := 0, ep := _, spent := _ } + 1 ≤ _
        unfold RP.k at hl
        simp [leftT, p0, sz, RP.k]; omega
  split
  · rename_i p1
    refine f.did (by decide) ?_ ?_ ?_ (fun j => ?_) ?_
    · unfold RP.next; split <;> rfl
    · unfold RP.next; split <;> rfl
    · unfold RP.next; split <;> simp [held, p1]
    · unfold RP.next; split <;> simp [wantW, p1]
    · by_cases hl : p.at_ + 1 < p.k
      · rw [RP.next_lt (by exact hl)]
        show leftT { p with at_ := p.at_ + 1, seen := _ } + 1 ≤ _
        simp [leftT, p1, sz, RP.k]; omega
      · rw [RP.next_ge (by exact hl)]
        show leftT { p with ph := 2, at_ := 0, seen := _ } + 1 ≤ _
        unfold RP.k at hl
        simp [leftT, p1, sz, RP.k]; omega
  split
  · rename_i p2
    refine f.did (by decide) rfl rfl ?_ (fun j => ?_) ?_
    · simp [held, p2]
    · simp [wantW, p2]
    · have ha0 : (0 : Int) ≤ p.at_ := by omega
      simp [leftT, p2, sz, RP.k]; omega
  split
  · rename_i p5
    refine f.did (by decide) rfl rfl ?_ (fun j => ?_) ?_
    · simp [held, p5, RP.k]
    · simp [wantW, p5]
    · simp [leftT, p5, sz, RP.k]; omega
  split
  · rename_i p3
    obtain ⟨q, hq⟩ : ∃ q : RP, q = { p with valid := p.valid && validB (p.ep p.at_) (H.ss p.s).v H.c.epochs } := ⟨_, rfl⟩
    show RF c ss a0 (n + 1) (if RP.last { p with valid := p.valid && validB (p.ep p.at_) (H.ss p.s).v H.c.epochs } then RP.judge (RP.next { p with valid := p.valid && validB (p.ep p.at_) (H.ss p.s).v H.c.epochs } 8) else RP.next { p with valid := p.valid && validB (p.ep p.at_) (H.ss p.s).v H.c.epochs } 8) (H.did p.who 3 (4 * p.s + 2))
    rw [← hq]
    have q1 : q.who = p.who ∧ q.ss = p.ss ∧ q.ph = 3 ∧ q.at_ = p.at_ ∧ q.tries = p.tries := by rw [hq]; exact ⟨rfl, rfl, p3, rfl, rfl⟩
    obtain ⟨x1, x2, x3, x4, x5⟩ := q1
    have x6 : q.k = p.k := by simp [RP.k, x2]
    by_cases hl : p.at_ + 1 < p.k
    · have hlast : q.last = false := by simp [RP.last, x4, x6, hl]
      rw [hlast, RP.next_lt (by rw [x4, x6]; exact hl)]
      simp only [Bool.false_eq_true, if_false]
      refine f.did (by decide) x1 x2 ?_ (fun j => ?_) ?_
      · simp [held, x3, p3]
      · simp [wantW, x3, p3]
      · simp [leftT, x3, p3, sz, RP.k, x2, x4, x5]; omega
    · have hlast : q.last = true := by simp [RP.last, x4, x6, hl]
      rw [hlast, RP.next_ge (by rw [x4, x6]; exact hl)]
      simp only [if_true]
      unfold RP.k at hl
      unfold RP.judge
      split
      · have e : ∀ r : RP, RP.answer r = { r with placed := r.looked, err := (RP.answer r).err, vals := (RP.answer r).vals } := fun r => by unfold RP.answer; split <;> rfl
        rw [e]
        refine f.did (by decide) x1 x2 ?_ (fun j => ?_) ?_
        · simp [held, p3]
        · simp [wantW, p3]
        · simp [leftT, p3, sz, RP.k]; unfold sz RP.k at hT; omega
      · split
        · refine f.did (by decide) x1 x2 ?_ (fun j => ?_) ?_
          · simp [held, p3]
          · simp [wantW, p3]
          · simp [leftT, p3, sz, RP.k, x2]; unfold sz RP.k at hT; omega
        · rename_i hnt
          have ht0 : ¬ p.tries = 0 := by intro h; simp [x5, h] at hnt
          refine f.did (by decide) x1 x2 ?_ (fun j => ?_) ?_
          · simp [held, p3, RP.begin]
          · simp [wantW, p3, RP.begin]
          · simp [leftT, p3, sz, RP.k, x2, x5, RP.begin, Int.sub_mul]; omega
  split
  · rename_i p4
    have hcan : canTake (H.ss p.s).who p.who = true := by simp [canTake, f.who, hw, wantW, p4]
    have hlk : H.lock p.who p.s = (H.did p.who 5 (4 * p.s + 1)).put p.s { H.ss p.s with who := p.who + 1 } := by unfold Hall.lock; rw [if_pos hcan]
    show RF c ss a0 (n + 1) (p.next 5) (H.lock p.who p.s)
    rw [hlk]
    have hnx : (p.next 5).who = p.who ∧ (p.next 5).ss = p.ss := by unfold RP.next; split <;> exact ⟨rfl, rfl⟩
    refine ⟨hnx.1.trans f.who, hnx.2.trans f.hs, f.hc, by simp [Hall.put, Hall.did]; have := f.la; omega, fun x hx => ?_, ?_, fun j hj => ?_, ?_⟩
    · have hx : x ∈ (H.did p.who 5 (4 * p.s + 1)).acts.drop a0 := hx
      rw [drop_did f.la] at hx
      rcases List.mem_append.1 hx with hx | hx
      · exact f.ac x hx
      · simp only [List.mem_singleton] at hx; subst hx; exact ⟨by simp, by simp, f.who⟩
    · show bal ((H.did p.who 5 (4 * p.s + 1)).acts.drop a0) = _
      rw [drop_did f.la, bal_app, f.ba]
      by_cases hl : p.at_ + 1 < p.k
      · rw [RP.next_lt hl]; simp [bal, held, p4]
      · rw [RP.next_ge hl]; unfold RP.k at hl; simp [bal, held, p4, RP.k]; omega
    · simp only [Hall.put, sput, Hall.did]
      by_cases hja : j = p.at_
      · subst hja
        rw [if_pos hs.symm]
        by_cases hl : p.at_ + 1 < p.k
        · rw [RP.next_lt hl]; simp [wantW, p4, f.who]
        · rw [RP.next_ge hl]; simp [wantW, f.who]
      · rw [if_neg (by rw [hs]; exact getD_ne nd hj (by omega) hja), f.ws j hj]
        by_cases hl : p.at_ + 1 < p.k
        · rw [RP.next_lt hl]; simp [wantW, p4]; split <;> split <;> omega
        · rw [RP.next_ge hl]; simp [wantW, p4]; omega
    · have := f.tm
      by_cases hl : p.at_ + 1 < p.k
      · rw [RP.next_lt hl]; simp [leftT, p4, sz, RP.k] at this ⊢; omega
      · rw [RP.next_ge hl]; unfold RP.k at hl; simp [leftT, p4, sz, RP.k] at this ⊢; omega
  split
  · rename_i p6
    refine f.did (by decide) ?_ ?_ ?_ (fun j => ?_) ?_
    · unfold RP.next; split <;> rfl
    · unfold RP.next; split <;> rfl
    · unfold RP.next; split <;> simp [held, p6, RP.k]
    · unfold RP.next; split <;> simp [wantW, p6]
    · by_cases hl : p.at_ + 1 < p.k
      · rw [RP.next_lt (by exact hl)]
        show leftT { p with at_ := p.at_ + 1, seen := _ } + 1 ≤ _
        simp [leftT, p6, sz, RP.k]; omega
      · rw [RP.next_ge (by exact hl)]
        show leftT { p with ph := 7, at_ := 0, seen := _ } + 1 ≤ _
        unfold RP.k at hl
        simp [leftT, p6, sz, RP.k]; omega
  · have p7 : p.ph = 7 := by omega
    have hcan : canGive (H.ss p.s).who p.who = true := by simp [canGive, f.who, hw, wantW, p7]
    have hlk : H.unlock p.who p.s = (H.did p.who 6 (4 * p.s + 1)).put p.s { H.ss p.s with who := 0 } := by unfold Hall.unlock; rw [if_pos hcan]
    show RF c ss a0 (n + 1) (if p.last then (p.next 8).answer else p.next 8) (H.unlock p.who p.s)
    rw [hlk]
    have hacs : ∀ x ∈ (H.did p.who 6 (4 * p.s + 1)).acts.drop a0, x.kind ≠ 2 ∧ x.kind ≠ 4 ∧ x.who = 0 := fun x hx => by
      rw [drop_did f.la] at hx
      rcases List.mem_append.1 hx with hx | hx
      · exact f.ac x hx
      · simp only [List.mem_singleton] at hx; subst hx; exact ⟨by simp, by simp, f.who⟩
    have hla : a0 ≤ (H.did p.who 6 (4 * p.s + 1)).acts.length := by simp [Hall.did]; have := f.la; omega
    have hba : bal ((H.did p.who 6 (4 * p.s + 1)).acts.drop a0) = p.k - p.at_ - 1 := by
      rw [drop_did f.la, bal_app, f.ba]; simp [bal, held, p7]; omega
    have htm := f.tm
    simp [leftT, p7] at htm
    by_cases hl : p.at_ + 1 < p.k
    · have hlast : p.last = false := by simp [RP.last, hl]
      rw [hlast, RP.next_lt hl]
      simp only [Bool.false_eq_true, if_false]
      refine ⟨f.who, f.hs, f.hc, hla, hacs, by show bal ((H.did p.who 6 (4 * p.s + 1)).acts.drop a0) = _; rw [hba]; simp [held, p7, RP.k]; omega, fun j hj => ?_, by simp [leftT, p7, RP.k] at htm ⊢; omega⟩
      simp only [Hall.put, sput, Hall.did]
      by_cases hja : j = p.at_
      · subst hja; rw [if_pos hs.symm]; simp [wantW, p7]
      · rw [if_neg (by rw [hs]; exact getD_ne nd hj (by omega) hja), f.ws j hj]
        simp [wantW, p7]; split <;> split <;> omega
    · have hlast : p.last = true := by simp [RP.last, hl]
      rw [hlast, RP.next_ge hl]
      simp only [if_true]
      unfold RP.k at hl
      have e : ∀ r : RP, RP.answer r = { r with placed := r.looked, err := (RP.answer r).err, vals := (RP.answer r).vals } := fun r => by unfold RP.answer; split <;> rfl
      rw [e]
      refine ⟨f.who, f.hs, f.hc, hla, hacs, by show bal ((H.did p.who 6 (4 * p.s + 1)).acts.drop a0) = _; rw [hba]; simp [held, RP.k]; omega, fun j hj => ?_, by simp [leftT, RP.k] at htm ⊢; omega⟩
      simp only [Hall.put, sput, Hall.did]
      by_cases hja : j = p.at_
      · subst hja; rw [if_pos hs.symm]; simp [wantW]
      · rw [if_neg (by rw [hs]; exact getD_ne nd hj (by omega) hja), f.ws j hj]
        simp [wantW, p7]; omega
end Go.Den
namespace Go.Den
open Go
theorem ssTo_bound (us : List ByteArray) {n : Int} (hn : 1 ≤ n) : ∀ k : Nat, ((((List.range k).filter (inS us n)).length : Nat) : Int) ≤ n ∧ ((List.range k).filter (inS us n)).length ≤ k
  | 0 => by simp; omega
  | k + 1 => by
    have ih := ssTo_bound us hn k
    rw [List.range_succ, List.filter_append, List.length_append]
    cases h : inS us n k with
    | false => simp [List.filter_cons, h]; omega
    | true =>
      have hk : (k : Int) < n := by
        simp only [inS, List.any_eq_true, decide_eq_true_eq] at h
        obtain ⟨u, _, hu⟩ := h
        rw [← hu]
        unfold stripeOf
        rw [if_neg (by omega)]
        exact Int.emod_lt_of_pos _ (by omega)
      simp [List.filter_cons, h]; omega
theorem stripesOf_cn (us : List ByteArray) {n : Int} (hn : 1 ≤ n) : ((stripesOf us n).length : Int) ≤ n := (ssTo_bound us hn 8).1
theorem HG.begin {H : Hall} (g : HG H) {w : Int} {s : Nat} (hs : s < H.n) (h : H.acts.length + 1 < 900000) : HG (H.begin w s) := by
  refine (g.did _ _ _ h).put (g.sn s hs) ⟨?_, (g.uv s hs).2⟩ (g.wh s hs)
  have := g.uv s hs
  unfold bgn U64 at *
  simp only
  split <;> omega
/-- An op that may not be is answered at once; any other one by a reading. -/
def RfJ (c : Cfg) (x : OpD) (a0 n : Nat) (r : RP) (H : Hall) : Prop :=
  if badB x then r.ss = [] ∧ H.c = c ∧ H.acts.length = a0 ∧ ((n = 0 ∧ r.ph = 0) ∨ (n = 1 ∧ r.ph = 8)) else RF c (stripesOf (usersOf x) c.stripes) a0 n r H
theorem RfJ.start {H : Hall} {x : OpD} (hk : x.kind = 4 ∨ x.kind = 5) (h1 : 1 ≤ H.c.stripes) (h8 : H.c.stripes ≤ 8) (hw : ∀ s, (H.ss s).who = 0) : RfJ H.c x H.acts.length 0 (rp0 H 0 x) H := by
  unfold RfJ
  split
  · rename_i hb
    exact ⟨by simp [rp0, RP.begin, hb, stripesOf_nil], rfl, rfl, .inl ⟨rfl, rfl⟩⟩
  · rename_i hb
    have hb : badB x = false := by simpa using hb
    refine ⟨rfl, by simp [rp0, RP.begin, hb], rfl, Nat.le_refl _, fun y hy => by simp at hy, by simp [bal, held, rp0, RP.begin], fun j _ => by rw [hw]; simp [wantW, rp0, RP.begin], ?_⟩
    simp [leftT, rp0, RP.begin, hb, sz, RP.k, Int.add_mul]; omega
theorem RfJ.next {c : Cfg} {x : OpD} {a0 n : Nat} {r : RP} {H : Hall} (j : RfJ c x a0 n r H) (rk : RK H.n r) (hk : x.kind = 4 ∨ x.kind = 5) (h1 : 1 ≤ c.stripes) (h8 : c.stripes ≤ 8) (h : r.ph ≠ 8) : RfJ c x a0 (n + 1) (r.step H n).1 (r.step H n).2 := by
  unfold RfJ at *
  split at j
  · rename_i hb
    simp only [hb, if_true]
    obtain ⟨h0, hc, ha, ⟨rfl, hp⟩ | ⟨rfl, hp⟩⟩ := j
    · have he : r.enabled H = true := by simp [RP.enabled, hp]
      simp [RP.step, he, h0, hc, ha]
    · exact absurd hp h
  · rename_i hb
    simp only [hb, if_false]
    have hp := stripesOf_pos h1 h8 (usersOf_bad (by simpa using hb) hk).1
    exact j.next rk (stripesOf_nodup _ _) (List.length_pos_iff.1 hp) h
theorem leftT_pos {r : RP} {n : Nat} (rk : RK n r) (h : r.ph ≠ 8) (h0 : r.ss ≠ []) : 1 ≤ leftT r := by
  have hat := rk.at_ h h0
  have ht := rk.rg.tr
  have hT : 0 ≤ r.tries * sz r := Int.mul_nonneg ht.1 (by unfold sz; omega)
  have hph := rk.ph
  unfold leftT
  unfold sz at *
  split
  · omega
  split
  · omega
  split
  · omega
  split
  · omega
  split
  · omega
  split
  · omega
  split
  · omega
  split
  · omega
  · omega
end Go.Den
