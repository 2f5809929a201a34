/- Further words of the denotation: rows, maps, equality, calls of function values, rounds of a range over a function, blocks with tags, heaps that are written down. No condition beyond the hypotheses that each theorem states. -/
import Derived.Test.YtcnphhhcknhhaaaDen
import Derived.Maps.AppendAt
import Derived.MapKept
import Derived.Laws.OwnMore
import Derived.Laws.StructEq
import Derived.RangeFuncIn
import Derived.RangeFuncRecord
set_option linter.unusedSimpArgs false
set_option linter.unusedVariables false
/-! DEN, part L: append onto a slice at the head of its block. -/
namespace Go.Den
open Go

/-- A slice that begins where its block does: its elements' cells. -/
def Row (sz : Nat) (e : TypeId) (h : Heap) (v : Value) (n : Nat) (xs : List Value) : Prop :=
  xs.length = n * sz ∧ ((v = .slice none 0 0 ∧ n = 0) ∨
    ∃ g cap cur, v = .slice (some ⟨g, 0, none⟩) n cap ∧ h g = some (.cells cur e (0, 0)) ∧ n ≤ cap ∧ cap ≤ maxLen ∧ cur.size = cap * sz ∧ cur.toList.take (n * sz) = xs)
def rowOf : Value → Option Nat
  | .slice (some a) _ _ => some a.block
  | _ => none
theorem rowOf_own (v : Value) : rowOf v = v.ownBlock := by cases v <;> first | rfl | (rename_i a _ _; cases a <;> rfl)
theorem Row.owns {sz : Nat} {e : TypeId} {w : World} {v : Value} {n : Nat} {xs : List Value} (r : Row sz e (abs w) v n xs) : w.ownsRow 0 e sz v n xs := by
  refine ⟨r.1, ?_⟩
  rcases r.2 with h | ⟨g, cap, cur, h1, h2, h3⟩
  · exact .inl h
  · exact .inr ⟨g, cap, cur, h1, Nat.zero_le _, h2, h3⟩
theorem Row.of {sz : Nat} {e : TypeId} {w : World} {v : Value} {n : Nat} {xs : List Value} (r : w.ownsRow 0 e sz v n xs) : Row sz e (abs w) v n xs := by
  refine ⟨r.1, ?_⟩
  rcases r.2 with h | ⟨g, cap, cur, h1, _, h2, h3⟩
  · exact .inl h
  · exact .inr ⟨g, cap, cur, h1, h2, h3⟩
/-- All blocks but one stay as they were. -/
def Keep (r : Option Nat) (h h' : Heap) : Prop := ∀ b o, h b = some o → some b ≠ r → h' b = some o
theorem Keep.of_ext {r : Option Nat} {h h' : Heap} (x : Ext h h') : Keep r h h' := fun b o e _ => x b o e
theorem Keep.trans {r : Option Nat} {a b c : Heap} (x : Keep r a b) (y : Keep r b c) : Keep r a c := fun k o e n => y k o (x k o e n) n
theorem Row.keep {sz : Nat} {e : TypeId} {h h' : Heap} {v : Value} {n : Nat} {xs : List Value} (r : Row sz e h v n xs) {q : Option Nat} (k : Keep q h h') (hq : rowOf v ≠ q ∨ rowOf v = none) : Row sz e h' v n xs := by
  refine ⟨r.1, ?_⟩
  rcases r.2 with h1 | ⟨g, cap, cur, rfl, h2, h3⟩
  · exact .inl h1
  · rcases hq with hq | hq
    · exact .inr ⟨g, cap, cur, rfl, k _ _ h2 (by simpa [rowOf] using hq), h3⟩
    · simp [rowOf] at hq
theorem Row.ext {sz : Nat} {e : TypeId} {h h' : Heap} {v : Value} {n : Nat} {xs : List Value} (r : Row sz e h v n xs) (k : Ext h h') : Row sz e h' v n xs := by
  refine ⟨r.1, ?_⟩
  rcases r.2 with h1 | ⟨g, cap, cur, rfl, h2, h3⟩
  · exact .inl h1
  · exact .inr ⟨g, cap, cur, rfl, k _ _ h2, h3⟩
theorem Row.lt {sz : Nat} {e : TypeId} {h : Heap} {v : Value} {n : Nat} {xs : List Value} (r : Row sz e h v n xs) : ∀ b, rowOf v = some b → ∃ o, h b = some o := by
  intro b hb
  rcases r.2 with ⟨rfl, _⟩ | ⟨g, cap, cur, rfl, h2, h3⟩
  · simp [rowOf] at hb
  · simp [rowOf] at hb; subst hb; exact ⟨_, h2⟩
/-- What append asks of the elements' type: cells, bytes. -/
def apC (P : Program) (e : TypeId) : Option (Nat × Nat × Nat) := match P.info? e with
  | some i => match i.zero with
    | some z => some (i.size, i.bytes, z.cells.size)
    | none => none
  | none => none
theorem cels_read {w : World} {b : Nat} : ∀ {n o : Nat} {l : List Value}, cels (abs w) b o n = some l → ∀ j u, l[j]? = some u → w.cell? ((⟨b, o, none⟩ : Addr).add j) = some u := by
  intro n o l h j u hu
  obtain ⟨h1, h2⟩ := cels_get h
  have hj : j < l.length := (List.getElem?_eq_some_iff.1 hu).1
  have := h2 j hj
  rw [cel_abs] at this
  have e : (⟨b, o, none⟩ : Addr).add j = ⟨b, o + j, none⟩ := by simp [Addr.add]
  rw [e, this]
  exact (List.getElem?_eq_some_iff.1 hu).2 ▸ rfl
theorem app_intro {P : Program} {t ty e : TypeId} {sz bytes : Nat} {v : Value} {n : Nat} {xs : List Value} {ab ao m c : Nat} {news : List Value} {h : Heap} {K : Value → Heap → Prop}
    (ht : P.underlying t = some (.slice e)) (hi : apC P e = some (sz, bytes, sz)) (hsz : 0 < sz) (hv : Row sz e h v n xs) (hn : cels h ab ao (m * sz) = some news) (h1 : ∀ u ∈ news, u.oneCell' = true)
    (h63 : n + m ≤ maxLen) (hby : (n + m) * bytes ≤ 140737488355328)
    (hk : ∀ v' h', Row sz e h' v' (n + m) (xs ++ news) → Keep (rowOf v) h h' → (rowOf v' = rowOf v ∨ ∃ b, rowOf v' = some b ∧ h b = none) → K v' h') :
    vvM P (Builtin.append_ #[t, t] ty #[v, .slice (some ⟨ab, ao, none⟩) m c]) h K := by
  intro w hw
  subst hw
  unfold apC at hi
  cases hi1 : P.info? e with
  | none => simp [hi1] at hi
  | some i =>
    cases hz : i.zero with
    | none => simp [hi1, hz] at hi
    | some z =>
      simp only [hi1, hz, Option.some.injEq, Prod.mk.injEq] at hi
      obtain ⟨v', w', hr, ho, hg, _, ha⟩ := run_append_own_at (P := P) w 0 t ty e i z sz bytes ht hi1 hz hi.1 hi.2.1 hi.2.2 hsz v n xs hv.owns ⟨ab, ao, none⟩ m c news (cels_get hn).1 (cels_read hn) h1 h63 hby (Nat.zero_le _)
      refine ⟨v', w', hr, ⟨hg.os, hg.tape, hg.output, hg.size⟩, hk v' _ (Row.of ho) (fun b o hb hne => ?_) ?_⟩
      · rw [rowOf_own] at hne
        have hlt : b < w.heap.size := (Array.getElem?_eq_some_iff.1 hb).1
        exact (hg.block b hlt hne).trans hb
      · rw [rowOf_own, rowOf_own]
        rcases ha with ha | ha
        · exact .inl ha
        · exact .inr ⟨_, ha, abs_fresh w⟩
theorem fold_over : ∀ (l : List Value) (off k : Nat) (cs : Array Value), (l.zipIdx k).foldl (fun cs x => cs.setIfInBounds (off + x.2) x.1) cs = over cs (off + k) l
  | [], _, _, _ => rfl
  | v :: l, off, k, cs => by
    simp only [List.zipIdx_cons, List.foldl_cons, over]
    rw [fold_over l off (k + 1)]; congr 1
theorem zrow_size (z : Array Value) (n : Nat) : (zrow z n).size = n := by simp [zrow]
/-- One part. -/
theorem fill_one {sz : Nat} {z : Array Value} {x : Value} (hx : x.cells.size = sz) : Instr.fill (fun i => some (i * sz, sz)) (zrow z (1 * sz)) [(0, x)] = some x.cells := by
  simp only [Instr.fill, hx, zrow_size]
  simp only [ne_eq, not_true, decide_false, Nat.zero_mul, Nat.zero_add, Nat.one_mul, Bool.false_or]
  have h : ¬ (sz > sz) := by omega
  simp only [h, decide_false, if_false, Bool.false_eq_true, Option.some.injEq]
  rw [← Array.foldl_toList, Array.toList_zipIdx]
  have := fold_over x.cells.toList 0 0 (zrow z sz)
  simp only [Nat.zero_add] at this
  rw [this, over_all _ _ (by rw [zrow_size]; simpa using hx)]
/-- append(s, x). -/
theorem app_one {P : Program} {t ty e : TypeId} {sz bytes : Nat} {z : Array Value} {v x : Value} {n : Nat} {xs : List Value} {h : Heap} {K : Value → Value → Heap → Prop}
    (hb : bsI P t = some (e, sz, z)) (ht : P.underlying t = some (.slice e)) (hi : apC P e = some (sz, bytes, sz)) (hsz : 0 < sz) (hx : x.cells.size = sz) (h1 : ∀ u ∈ x.cells.toList, u.oneCell' = true)
    (hv : Row sz e h v n xs) (h63 : n + 1 ≤ maxLen) (hby : (n + 1) * bytes ≤ 140737488355328) (hs : sz ≤ 16777216)
    (hk : ∀ a v' h', Row sz e h' v' (n + 1) (xs ++ x.cells.toList) → Keep (rowOf v) h h' → (rowOf v' = rowOf v ∨ ∃ b, rowOf v' = some b ∧ h b = none) → K a v' h') :
    bsM (bsI P t) 1 [(0, x)] h fun a h' => vvM P (Builtin.append_ #[t, t] ty #[v, a]) h' (K a) := by
  rw [hb]
  simp only [bsM]
  rw [fill_one hx]
  refine ⟨by omega, fun b hbn => ?_⟩
  have he := Ext.upd hbn (.cells x.cells e (0, 0))
  have hc : cels (upd h b (.cells x.cells e (0, 0))) b 0 (1 * sz) = some x.cells.toList := by
    have := cels_upd (h := h) (b := b) (c := x.cells.toList) (e := e) (f := (0, 0)) (n := 1 * sz) (o := 0) (by simpa using hx.symm)
    simpa using this
  refine app_intro ht hi hsz (hv.ext he) hc h1 h63 hby fun v' h' hr hkp ha => hk _ v' h' hr ((Keep.of_ext he).trans hkp) ?_
  rcases ha with ha | ⟨k, ha, hn⟩
  · exact .inl ha
  · refine .inr ⟨k, ha, ?_⟩
    cases hh : h k with
    | none => rfl
    | some o => rw [he _ _ hh] at hn; cases hn
theorem Ext.keep {h0 h h' : Heap} {r : Option Nat} (x : Ext h0 h) (k : Keep r h h') (hr : ∀ b, r = some b → h0 b = none) : Ext h0 h' := fun b o e =>
  k b o (x b o e) (fun h => by rw [hr b h.symm] at e; cases e)
theorem cels_of {h : Heap} {b : Nat} {c : Array Value} {e : TypeId} {f : Nat × Nat} (hb : h b = some (.cells c e f)) : ∀ {n o : Nat} {l : List Value}, (c.toList.drop o).take n = l → l.length = n → cels h b o n = some l
  | 0, o, l, h1, h2 => by simp at h1; subst h1; rfl
  | n + 1, o, [], h1, h2 => by simp at h2
  | n + 1, o, x :: l, h1, h2 => by
    have ho : o < c.toList.length := by
      have : ((c.toList.drop o).take (n + 1)).length = n + 1 := by rw [h1]; exact h2
      simp only [List.length_take, List.length_drop] at this
      omega
    rw [List.drop_eq_getElem_cons ho, List.take_succ_cons, List.cons.injEq] at h1
    have h3 : cel h b o = some x := by simp [cel, hb, ← h1.1]
    have h4 := cels_of hb (n := n) (o := o + 1) h1.2 (by simpa using h2)
    simp only [cels, h3, h4]
theorem flat_at {α : Type} (enc : α → List Value) {sz : Nat} (henc : ∀ x, (enc x).length = sz) : ∀ (xs : List α) (i : Nat) (hi : i < xs.length), ((xs.flatMap enc).drop (i * sz)).take sz = enc xs[i]
  | x :: xs, 0, _ => by simp [List.take_append, henc]
  | x :: xs, i + 1, hi => by
    simp only [List.flatMap_cons, List.getElem_cons_succ]
    rw [show (i + 1) * sz = (enc x).length + i * sz by rw [henc, Nat.add_mul]; omega, List.drop_append]
    rw [List.drop_eq_nil_of_le (by omega), show (enc x).length + i * sz - (enc x).length = i * sz by omega, List.nil_append]
    exact flat_at enc henc xs i (by simpa using hi)
theorem Row.sl {α : Type} {enc : α → List Value} {sz : Nat} {R : Heap → List Value → α → Prop} {e : TypeId} {h : Heap} {v : Value} {xs : List α} (henc : ∀ x, (enc x).length = sz) (hR : ∀ x, R h (enc x) x)
    (r : Row sz e h v xs.length (xs.flatMap enc)) : Sl sz R h v xs := by
  rcases r.2 with ⟨rfl, h2⟩ | ⟨g, cap, cur, rfl, hb, h3, h4, h5, h6⟩
  · exact .inl ⟨List.eq_nil_of_length_eq_zero h2, _, _, rfl⟩
  · refine .inr ⟨g, 0, cap, rfl, h3, h4, fun i hi => ⟨enc xs[i], cels_of hb ?_ (henc _), hR _⟩⟩
    rw [Nat.zero_add, ← flat_at enc henc xs i hi, ← h6, List.drop_take, List.take_take]
    congr 1
    have : (i + 1) * sz ≤ xs.length * sz := Nat.mul_le_mul_right _ hi
    rw [Nat.add_mul] at this; omega
end Go.Den

/-! DEN, part M: guarded operations whose value is only known where they are done; places of a slice. -/
namespace Go.Den
open Go
theorem gM_k {c : Bool} {a : Value} {h : Heap} {K : Value → Heap → Prop} (hk : ∀ u, (c = true → u = a) → K u h) : gM c (fun k => k a h) h K := by
  cases c
  · exact hk _ (fun h => by cases h)
  · exact hk _ (fun _ => rfl)
theorem gM_ov {c : Bool} {x : Option Value} {a : Value} {h : Heap} {K : Value → Heap → Prop} (hx : c = true → x = some a) (hk : ∀ u, (c = true → u = a) → K u h) : gM c (fun k => ov x fun v => k v h) h K := by
  cases c
  · exact hk _ (fun h => by cases h)
  · show ov x (fun v => K v h)
    rw [hx rfl]; exact hk _ (fun _ => rfl)
theorem gM_call {c : Bool} {A : (Value → Heap → Prop) → Prop} {h : Heap} {K : Value → Heap → Prop} {a : Value} (hA : c = true → ∀ K' : Value → Heap → Prop, (∀ h', Ext h h' → K' a h') → A K') (hk : ∀ u h', Ext h h' → (c = true → u = a) → K u h') : gM c A h K := by
  cases c
  · exact hk _ _ (Ext.refl h) (fun h => by cases h)
  · exact hA rfl _ (fun h' he => hk _ _ he (fun _ => rfl))
end Go.Den

/-! DEN, part N: maps whose keys are bools, ints or texts. -/
namespace Go.Den
open Go Go.MapKept

/-- A map in memory, as a function of its keys. -/
def MapR (d : TypeDesc) (h : Heap) (r : Nat) (f : Value → Option Value) : Prop :=
  ∃ es ck, h r = some (.map es ck) ∧ Stamped es ck ∧ (∀ x ∈ es.toList, IsKey d x.key) ∧ ∀ k v, IsKey d k → (f k = some v ↔ ∃ e ∈ es.toList, e.key = k ∧ e.val = v)
theorem MapR.of {d : TypeDesc} {h h' : Heap} {r : Nat} {f : Value → Option Value} (m : MapR d h r f) (e : h' r = h r) : MapR d h' r f := by
  obtain ⟨es, ck, h1, h2⟩ := m
  exact ⟨es, ck, e.trans h1, h2⟩
theorem MapR.ext {d : TypeDesc} {h h' : Heap} {r : Nat} {f : Value → Option Value} (m : MapR d h r f) (e : Ext h h') : MapR d h' r f := by
  obtain ⟨es, ck, h1, h2⟩ := m
  exact ⟨es, ck, e _ _ h1, h2⟩
theorem MapR.lt {d : TypeDesc} {h : Heap} {r : Nat} {f : Value → Option Value} (m : MapR d h r f) : ∃ o, h r = some o := by
  obtain ⟨es, ck, h1, _⟩ := m
  exact ⟨_, h1⟩
/-- A map's type: of keys, of elements; the zero of these. -/
def mpC (P : Program) (t : TypeId) : Option (TypeId × TypeDesc × Value) := match P.underlying t with
  | some (.map kt et) => match P.underlying kt with
    | some d => match P.info? et with
      | some i => match i.zero with
        | some z => some (kt, d, z)
        | none => none
      | none => none
    | none => none
  | _ => none
theorem mpC_spec {P : Program} {t kt : TypeId} {d : TypeDesc} {z : Value} (h : mpC P t = some (kt, d, z)) : ∃ et i, P.underlying t = some (.map kt et) ∧ P.underlying kt = some d ∧ P.info? et = some i ∧ i.zero = some z := by
  unfold mpC at h
  split at h
  · rename_i kt' et hu
    split at h
    · rename_i d' hd
      split at h
      · rename_i i hi
        split at h
        · rename_i z' hz
          simp only [Option.some.injEq, Prod.mk.injEq] at h
          obtain ⟨rfl, rfl, rfl⟩ := h
          exact ⟨et, i, hu, hd, hi, hz⟩
        · cases h
      · cases h
    · cases h
  · cases h
/-- What a look-up answers. -/
def lkA (z : Value) (ok : Bool) (o : Option Value) : Value := match o with
  | some v => if ok then .tuple #[v, .bool true] else v
  | none => if ok then .tuple #[z, .bool false] else z
theorem lookup_run {P : Program} {t kt : TypeId} {d : TypeDesc} {z : Value} {r : Nat} {f : Value → Option Value} {k : Value} {ok : Bool} {h : Heap}
    (hc : mpC P t = some (kt, d, z)) (hk : IsKey d k) (m : MapR d h r f) : rdP P (Instr.lookup t (.map (some r)) k ok) h (lkA z ok (f k)) := by
  intro w hw
  obtain ⟨et, i, hu, hd, hi, hz⟩ := mpC_spec hc
  obtain ⟨es, ck, hb, hs, hks, hf⟩ := m
  rw [← hw] at hb
  have hb' : w.heap[r]? = some (.map es ck) := hb
  rcases findNow_spec hk es.toList 0 hks with ⟨h1, h2⟩ | ⟨j, e, h1, h2, h3⟩
  · have hn : f k = none := by
      cases hfk : f k with
      | none => rfl
      | some v => obtain ⟨e, he, he2, _⟩ := (hf k v hk).1 hfk; exact absurd he2 (h2 e he)
    rw [hn]
    cases ok <;> simp [Instr.lookup, run_underlying hu, Go.MapKept.run_getObj_map hb', run_checkKey hd hk, run_findKey hd h1, Result.andThen, zeroValue, typeInfo, hi, hz, lkA]
  · have hsm : f k = some e.val := (hf k e.val hk).2 ⟨e, List.mem_of_getElem? h2, h3, rfl⟩
    rw [hsm]
    cases ok <;> simp [Instr.lookup, run_underlying hu, Go.MapKept.run_getObj_map hb', run_checkKey hd hk, run_findKey hd h1, Result.andThen, lkA]
theorem lookup_vv {P : Program} {t kt : TypeId} {d : TypeDesc} {z : Value} {r : Nat} {f : Value → Option Value} {k : Value} {ok : Bool} {h : Heap} {K : Value → Heap → Prop}
    (hc : mpC P t = some (kt, d, z)) (hk : IsKey d k) (m : MapR d h r f) (hK : K (lkA z ok (f k)) h) : vvM P (Instr.lookup t (.map (some r)) k ok) h K :=
  fun w hw => ⟨_, w, lookup_run hc hk m w hw, Okw.refl w, by rw [hw]; exact hK⟩
theorem lookup_lk {P : Program} {t kt : TypeId} {d : TypeDesc} {z : Value} {r : Nat} {f : Value → Option Value} {k : Value} {ok : Bool} {h : Heap} {K : Value → Prop}
    (hc : mpC P t = some (kt, d, z)) (hk : IsKey d k) (m : MapR d h r f) (hK : K (lkA z ok (f k))) : lkM P (Instr.lookup t (.map (some r)) k ok) h K := ⟨_, lookup_run hc hk m, hK⟩
theorem makeMap_vv {P : Program} {t kt : TypeId} {d : TypeDesc} {z : Value} {h : Heap} {K : Value → Heap → Prop} (hc : mpC P t = some (kt, d, z))
    (hK : ∀ r h', h r = none → Ext h h' → MapR d h' r (fun _ => none) → K (.map (some r)) h') : vvM P (Instr.makeMap t none) h K := by
  intro w hw
  refine ⟨.map (some w.heap.size), w.alloc (.map #[] 0), rfl, ⟨rfl, rfl, rfl, by simp⟩, ?_⟩
  have ha : abs (w.alloc (.map #[] 0)) = upd (abs w) w.heap.size (.map #[] 0) := abs_alloc w _
  rw [ha, hw]
  have hn : h w.heap.size = none := by rw [← hw]; exact abs_fresh w
  refine hK _ _ hn (Ext.upd hn _) ⟨#[], 0, upd_same _ _ _, stamped_empty 0, by simp, by simp⟩
open Classical in
/-- One key more, or another value of it. -/
noncomputable def mset (f : Value → Option Value) (k v : Value) : Value → Option Value := fun x => if x = k then some v else f x
theorem mset_same (f : Value → Option Value) (k v : Value) : mset f k v k = some v := by simp [mset]
theorem mset_ne (f : Value → Option Value) (k v : Value) {x : Value} (hx : x ≠ k) : mset f k v x = f x := by simp [mset, hx]
theorem mapUpdate_u {P : Program} {t kt : TypeId} {d : TypeDesc} {z : Value} {r : Nat} {f : Value → Option Value} {k v : Value} {h : Heap} {K : Heap → Prop}
    (hc : mpC P t = some (kt, d, z)) (hk : IsKey d k) (m : MapR d h r f) (hK : ∀ h', (∀ b, b ≠ r → h' b = h b) → MapR d h' r (mset f k v) → K h') : uM P (Instr.mapUpdate t (.map (some r)) k v) h K := by
  intro w hw
  obtain ⟨et, i, hu, hd, hi, hz⟩ := mpC_spec hc
  obtain ⟨es, ck, hb, hs, hks, hf⟩ := m
  rw [← hw] at hb
  have hb' : w.heap[r]? = some (.map es ck) := hb
  rcases findNow_spec hk es.toList 0 hks with ⟨h1, h2⟩ | ⟨j, e, h1, h2, h3⟩
  · refine ⟨{ w with heap := w.heap.setIfInBounds r (.map (es.push { key := k, val := v, born := ck }) (ck + 1)) }, ?_, ⟨rfl, rfl, rfl, by simp⟩, hK _ (fun b hne => ?_) ⟨_, _, (heap_set hb').1, stamped_push hs h2, ?_, ?_⟩⟩
    · simp [Instr.mapUpdate, run_underlying hu, Go.MapKept.run_getObj_map hb', run_checkKey hd hk, run_findKey hd h1, Go.MapKept.run_setObj_map _ hb', Result.andThen]
    · rw [← hw]; exact (heap_set hb').2 b hne
    · intro x hx
      simp only [Array.toList_push, List.mem_append, List.mem_singleton] at hx
      rcases hx with hx | rfl
      · exact hks x hx
      · exact hk
    · intro k' v' hk'
      simp only [Array.toList_push, List.mem_append, List.mem_singleton]
      by_cases hkk : k' = k
      · subst hkk
        rw [mset_same]
        constructor
        · intro he; cases he; exact ⟨_, .inr rfl, rfl, rfl⟩
        · rintro ⟨e, he | rfl, he2, he3⟩
          · exact absurd he2 (h2 e he)
          · rw [← he3]
      · rw [mset_ne _ _ _ hkk, hf k' v' hk']
        constructor
        · rintro ⟨e, he, he2⟩; exact ⟨e, .inl he, he2⟩
        · rintro ⟨e, he | rfl, he2, he3⟩
          · exact ⟨e, he, he2, he3⟩
          · exact absurd he2.symm hkk
  · have hj : es[j]? = some e := by simpa using h2
    have hkey : ∀ e', es[j]? = some e' → ({ e' with key := k, val := v } : MapEntry).key = e'.key := fun e' he' => by rw [hj] at he'; cases he'; exact h3.symm
    refine ⟨{ w with heap := w.heap.setIfInBounds r (.map (es.modify j fun e => { e with key := k, val := v }) ck) }, ?_, ⟨rfl, rfl, rfl, by simp⟩, hK _ (fun b hne => ?_)
      ⟨_, _, (heap_set hb').1, stamped_modify hs _ _ (fun _ _ => rfl) (fun e' _ he' => hkey e' he'), isKey_modify hks _ _ hkey, ?_⟩⟩
    · simp [Instr.mapUpdate, run_underlying hu, Go.MapKept.run_getObj_map hb', run_checkKey hd hk, run_findKey hd h1, hj, h3, run_keyThatStays hk, Go.MapKept.run_setObj_map _ hb', Result.andThen]
    · rw [← hw]; exact (heap_set hb').2 b hne
    · intro k' v' hk'
      have hmem : ∀ x, x ∈ (es.modify j fun e => { e with key := k, val := v }).toList ↔ ∃ i' : Nat, (if j = i' then (es[i']?).map (fun e => ({ e with key := k, val := v } : MapEntry)) else es[i']?) = some x := by
        intro x
        rw [List.mem_iff_getElem?]
        constructor
        · rintro ⟨i', hi'⟩; exact ⟨i', by rw [← hi', Array.getElem?_toList, Array.getElem?_modify]⟩
        · rintro ⟨i', hi'⟩; exact ⟨i', by rw [← hi', Array.getElem?_toList, Array.getElem?_modify]⟩
      have huniq : ∀ x ∈ es.toList, x.key = k → ∀ i', es[i']? = some x → i' = j := by
        intro x hx hxk i' hi'
        have hnd := hs.2.2
        have h1' : (es.toList.map (·.key))[i']? = some k := by simp [hi', hxk]
        have h2' : (es.toList.map (·.key))[j]? = some k := by simp [hj, h3]
        have hl1 : i' < (es.toList.map (·.key)).length := (List.getElem?_eq_some_iff.1 h1').1
        exact (List.getElem?_inj hl1 hnd).1 (h1'.trans h2'.symm)
      by_cases hkk : k' = k
      · subst hkk
        rw [mset_same]
        constructor
        · intro he; cases he
          exact ⟨{ e with key := k', val := v }, (hmem _).2 ⟨j, by simp [hj]⟩, rfl, rfl⟩
        · rintro ⟨x, hx, hx2, hx3⟩
          obtain ⟨i', hi'⟩ := (hmem x).1 hx
          by_cases hij : j = i'
          · subst hij; simp [hj] at hi'; rw [← hx3, ← hi']
          · rw [if_neg hij] at hi'
            exact absurd (huniq x (List.mem_of_getElem? (by simpa using hi')) hx2 i' hi').symm hij
      · rw [mset_ne _ _ _ hkk, hf k' v' hk']
        constructor
        · rintro ⟨x, hx, hx2, hx3⟩
          obtain ⟨i', hi'⟩ := List.mem_iff_getElem?.1 hx
          have hi2 : es[i']? = some x := by simpa using hi'
          have hij : ¬ j = i' := fun hij => by subst hij; rw [hj] at hi2; cases hi2; exact hkk (hx2.symm.trans h3)
          exact ⟨x, (hmem x).2 ⟨i', by rw [if_neg hij]; exact hi2⟩, hx2, hx3⟩
        · rintro ⟨x, hx, hx2, hx3⟩
          obtain ⟨i', hi'⟩ := (hmem x).1 hx
          by_cases hij : j = i'
          · subst hij; simp [hj] at hi'; rw [← hi'] at hx2; exact absurd hx2.symm hkk
          · rw [if_neg hij] at hi'
            exact ⟨x, List.mem_of_getElem? (by simpa using hi'), hx2, hx3⟩
end Go.Den

/-! DEN, part O: make of a slice. -/
namespace Go.Den
open Go
theorem makeSlice_vv {P : Program} {t e : TypeId} {sz bytes n : Nat} {z : Array Value} {kl kc : IntKind} {h : Heap} {K : Value → Heap → Prop} (ht : P.underlying t = some (.slice e)) (hi : apC P e = some (sz, bytes, sz)) (hz : zc P e = some z)
    (hc : n * sz ≤ 16777216) (hb : bytes * n ≤ 281474976710656) (h63 : n ≤ maxLen)
    (hk : ∀ b h', h b = none → Ext h h' → h' b = some (.cells (madeCells z (n * sz)) e (0, 0)) → K (.slice (some ⟨b, 0, none⟩) n n) h') :
    vvM P (Instr.makeSlice t (.int kl n) (.int kc n)) h K := by
  intro w hw
  unfold apC at hi
  unfold zc at hz
  cases hi1 : P.info? e with
  | none => simp [hi1] at hi
  | some i =>
    cases hz1 : i.zero with
    | none => simp [hi1, hz1] at hi
    | some z' =>
      simp only [hi1, hz1, Option.some.injEq, Prod.mk.injEq] at hi hz
      obtain ⟨rfl, rfl, hi3⟩ := hi
      subst hz
      have h63' : (n : Int) ≤ 9223372036854775807 := by unfold maxLen at h63; omega
      have hb' : (i.bytes : Int) * n ≤ 281474976710656 := by
        have h1 : ((i.bytes * n : Nat) : Int) ≤ 281474976710656 := by omega
        rw [← Int.natCast_mul]; exact h1
      have hr := run_makeSlice (P := P) w t e i z' ht hi1 hz1 kl kc n n (by omega) (by omega) (by rw [Int.toNat_natCast]; exact hc) hb' h63'
      simp only [Int.toNat_natCast] at hr
      refine ⟨_, _, hr, ⟨rfl, rfl, rfl, by simp⟩, ?_⟩
      have ha : abs (w.alloc (.cells (madeCells z'.cells (n * i.size)) e)) = upd (abs w) w.heap.size (.cells (madeCells z'.cells (n * i.size)) e) := abs_alloc w _
      rw [ha, hw]
      have hn : h w.heap.size = none := by rw [← hw]; exact abs_fresh w
      exact hk _ _ hn (Ext.upd hn _) (upd_same _ _ _)
theorem made_one (v : Value) (n : Nat) : madeCells #[v] n = Array.replicate n v := by
  apply Array.ext_getElem?
  intro i
  simp only [madeCells]
  by_cases hi : i < n
  · simp [hi, Nat.mod_one]
  · simp [hi]
end Go.Den

/-! DEN, part Q: words by which straight code is simplified away. -/
namespace Go.Den
open Go
/-! What comes later is looked at later. -/
@[congr] theorem gM_cong {c c' : Bool} {A A' : (Value → Heap → Prop) → Prop} {h : Heap} {K : Value → Heap → Prop} (hc : c = c') (hA : c' = true → A = A') : gM c A h K = gM c' A' h K := by
  subst hc
  cases c
  · rfl
  · rw [hA rfl]
@[congr] theorem gv_cong {c c' : Bool} {A A' : (Value → Prop) → Prop} {K : Value → Prop} (hc : c = c') (hA : c' = true → A = A') : gv c A K = gv c' A' K := by
  subst hc
  cases c
  · rfl
  · rw [hA rfl]
@[congr] theorem ov_cong {x x' : Option Value} {K : Value → Prop} (hx : x = x') : ov x K = ov x' K := by rw [hx]
@[congr] theorem cdM_cong {v v' : Value} {A B : Prop} (hv : v = v') : cdM v A B = cdM v' A B := by rw [hv]
@[congr] theorem nwM_cong {c c' : Option (Array Value)} {e : TypeId} {h : Heap} {K : Value → Heap → Prop} (hc : c = c') : nwM c e h K = nwM c' e h K := by rw [hc]
@[congr] theorem stM_cong {n : Option Nat} {x x' v v' : Value} {h : Heap} {K : Heap → Prop} (hx : x = x') (hv : v = v') : stM n x v h K = stM n x' v' h K := by rw [hx, hv]
@[congr] theorem callM_cong {P : Program} {f : FuncId} {args args' : Array Value} {h : Heap} {K : Value → Heap → Prop} (ha : args = args') : callM P f args h K = callM P f args' h K := by rw [ha]
@[congr] theorem vvM_cong {P : Program} {S S' : Sem Value} {h : Heap} {K : Value → Heap → Prop} (hS : S = S') : vvM P S h K = vvM P S' h K := by rw [hS]
@[congr] theorem uM_cong {P : Program} {S S' : Sem Unit} {h : Heap} {K : Heap → Prop} (hS : S = S') : uM P S h K = uM P S' h K := by rw [hS]
@[congr] theorem nxM_cong {P : Program} {S S' : Sem Next} {h : Heap} {K : Value → Heap → Prop} (hS : S = S') : nxM P S h K = nxM P S' h K := by rw [hS]
@[congr] theorem lkM_cong {P : Program} {S S' : Sem Value} {h : Heap} {K : Value → Prop} (hS : S = S') : lkM P S h K = lkM P S' h K := by rw [hS]
@[congr] theorem bsM_cong {inf : Option (TypeId × Nat × Array Value)} {n : Nat} {ps ps' : List (Nat × Value)} {h : Heap} {K : Value → Heap → Prop} (hp : ps = ps') : bsM inf n ps h K = bsM inf n ps' h K := by rw [hp]
@[congr] theorem seqM_cong {A : Post → Prop} {K : List Nat → Env → Heap → Prop} {Q : Post} : seqM A K Q = seqM A K Q := rfl
@[congr] theorem loopM_cong {body : List Nat → Env → Heap → Post → Prop} {m : List Nat} {s : Env} {h : Heap} {Q : Post} : loopM body m s h Q = loopM body m s h Q := rfl
/-- A value that is told only where it is wanted. -/
def gdv (c : Bool) (a : Value) : Value := match c with
  | true => a
  | false => undef
@[simp] theorem gdv_t (a : Value) : gdv true a = a := rfl
@[simp] theorem gdv_f (a : Value) : gdv false a = undef := rfl
@[simp] theorem gM_gdv (c : Bool) (a : Value) (h : Heap) (K : Value → Heap → Prop) : gM c (fun k => k a h) h K = K (gdv c a) h := by cases c <;> rfl
@[simp] theorem gv_gdv (c : Bool) (a : Value) (K : Value → Prop) : gv c (fun k => k a) K = K (gdv c a) := by cases c <;> rfl
@[simp] theorem gv_ov (c : Bool) (a : Value) (K : Value → Prop) : gv c (ov (some a)) K = K (gdv c a) := by cases c <;> rfl
@[simp] theorem pk_and (b x : Bool) : pkV (.bool b) (gdv b (.bool x)) (.bool false) = some (.bool (b && x)) := by cases b <;> rfl
@[simp] theorem pk_or {b g : Bool} (x : Bool) (hg : g = !b) : pkV (.bool b) (.bool true) (gdv g (.bool x)) = some (.bool (b || x)) := by subst hg; cases b <;> rfl
@[simp] theorem gdv_gdv (c : Bool) (a : Value) : gdv c (gdv c a) = gdv c a := by cases c <;> rfl
@[simp] theorem beq_dec (a b : Int) : (a == b) = decide (a = b) := by by_cases h : a = b <;> simp [h]
@[simp] theorem bne_dec (a b : Int) : (a != b) = !decide (a = b) := by by_cases h : a = b <;> simp [h, bne]
theorem cel_of {h : Heap} {b : Nat} {c : Array Value} {e : TypeId} {f : Nat × Nat} (hb : h b = some (.cells c e f)) (o : Nat) : cel h b o = c[o]? := by simp [cel, hb]
/-- A guarded call that but allocates. -/
theorem gM_call' {c : Bool} {A : (Value → Heap → Prop) → Prop} {h : Heap} {K : Value → Heap → Prop} {a : Value} (hA : c = true → ∀ K' : Value → Heap → Prop, (∀ h', Ext h h' → K' a h') → A K') (hk : ∀ h', Ext h h' → K (gdv c a) h') : gM c A h K := by
  cases c
  · exact hk _ (Ext.refl h)
  · exact hA rfl _ (fun h' he => hk _ he)
/-- A struct in a box of its own, whole. -/
theorem ld_box {h : Heap} {b n : Nat} {c : Array Value} {e : TypeId} {f : Nat × Nat} (hb : h b = some (.cells c e f)) (hn : c.size = n) : ldV (some (some n)) (.pointer (some ⟨b, 0, none⟩)) h = some (.agg c) := by
  have := ldV_n (cels_of hb (n := n) (o := 0) (l := c.toList) (by rw [List.drop_zero, List.take_of_length_le (by simp [hn])]) (by simpa using hn))
  simpa using this
/-- A new box of a struct. -/
theorem nw_agg {c : Array Value} {e : TypeId} {h : Heap} {K : Value → Heap → Prop} (hk : ∀ b h', h b = none → Ext h h' → h' b = some (.cells c e (0, 0)) → K (.pointer (some ⟨b, 0, none⟩)) h') : nwM (some (Value.agg c).cells) e h K := nw_intro hk
@[simp] theorem cells_agg (c : Array Value) : (Value.agg c).cells = c := rfl
/-- A new box of a zero, and what is stored into it. -/
theorem nw_st {z : Array Value} {n : Nat} {e : TypeId} {v : Value} {h : Heap} {K : Value → Heap → Prop} (hz : z.size = n) (hn : v.cells.size = n) (h1 : ∀ u ∈ v.cells.toList, u.oneCell' = true)
    (hk : ∀ b h', h b = none → Ext h h' → h' b = some (.cells v.cells e (0, 0)) → K (.pointer (some ⟨b, 0, none⟩)) h') : nwM (some z) e h (fun p h' => stM (some n) p v h' (fun h'' => K p h'')) := new_store hz hn h1 hk
/-! The heap, written out. -/
theorem upd_same' (h : Heap) (b : Nat) (o : Obj) : upd h b o b = some o := upd_same h b o
theorem upd_ne {h : Heap} {b k : Nat} {o : Obj} (hk : k ≠ b) : upd h b o k = h k := by simp [upd, hk]
theorem upd_nn (h : Heap) (b k : Nat) (o : Obj) : (upd h b o k = none) = (k ≠ b ∧ h k = none) := by
  unfold upd
  by_cases e : k = b <;> simp [e]
theorem nwM_s (c : Array Value) (e : TypeId) (h : Heap) (K : Value → Heap → Prop) : nwM (some c) e h K = ∀ b, h b = none → K (.pointer (some ⟨b, 0, none⟩)) (upd h b (.cells c e (0, 0))) := rfl
end Go.Den

/-! DEN, part S: rows of elements, element by element; loops over them. -/
namespace Go.Den
open Go
/-- A row, from a place on written over. -/
def spl (xs : List Value) (o : Nat) (l : List Value) : List Value := xs.take o ++ l ++ xs.drop (o + l.length)
theorem spl_len {xs : List Value} {o : Nat} {l : List Value} (h : o + l.length ≤ xs.length) : (spl xs o l).length = xs.length := by simp [spl]; omega
theorem spl_get {xs : List Value} {o : Nat} {l : List Value} (h : o + l.length ≤ xs.length) (i : Nat) : (spl xs o l)[i]? = if o ≤ i ∧ i < o + l.length then l[i - o]? else xs[i]? := by
  unfold spl
  by_cases h1 : i < o
  · rw [if_neg (by omega), List.append_assoc, List.getElem?_append_left (by simp; omega), List.getElem?_take_of_lt h1]
  · by_cases h2 : i < o + l.length
    · rw [if_pos (by omega), List.append_assoc, List.getElem?_append_right (by simp; omega), List.getElem?_append_left (by simp; omega)]
      congr 1; simp; omega
    · rw [if_neg (by omega), List.getElem?_append_right (by simp; omega)]
      simp; congr 1; omega
theorem over_list {c : Array Value} {o : Nat} {l : List Value} (h : o + l.length ≤ c.size) : (over c o l).toList = spl c.toList o l := by
  apply List.ext_getElem?
  intro i
  rw [spl_get (by simpa using h), Array.getElem?_toList, over_get c l o h i]; simp
theorem take_spl {xs : List Value} {o n : Nat} {l : List Value} (h : o + l.length ≤ n) (hn : n ≤ xs.length) : (spl xs o l).take n = spl (xs.take n) o l := by
  apply List.ext_getElem?
  intro i
  rw [spl_get (by simp; omega)]
  by_cases hi : i < n
  · rw [List.getElem?_take_of_lt hi, spl_get (by omega), List.getElem?_take_of_lt hi]
  · rw [List.getElem?_eq_none (by simp [spl_len (show o + l.length ≤ xs.length by omega)]; omega), if_neg (by omega), List.getElem?_eq_none (by simp; omega)]
theorem Row.own {sz : Nat} {e : TypeId} {h : Heap} {v : Value} {n : Nat} {xs : List Value} (r : Row sz e h v n xs) (hn : 0 < n) : ∃ g cap cur, v = .slice (some ⟨g, 0, none⟩) n cap ∧ h g = some (.cells cur e (0, 0)) ∧ n ≤ cap ∧ cap ≤ maxLen ∧ cur.size = cap * sz ∧ cur.toList.take (n * sz) = xs := by
  rcases r.2 with ⟨_, h0⟩ | r
  · omega
  · exact r
/-- What stands in a row, from a place on. -/
theorem Row.cels {sz : Nat} {e : TypeId} {h : Heap} {v : Value} {n : Nat} {xs : List Value} (r : Row sz e h v n xs) {g : Nat} (hg : rowOf v = some g) {o m : Nat} (ho : o + m ≤ n * sz) : cels h g o m = some ((xs.drop o).take m) := by
  rcases r.2 with ⟨rfl, _⟩ | ⟨g', cap, cur, rfl, hb, h1, h2, h3, h4⟩
  · simp [rowOf] at hg
  · simp only [rowOf, Option.some.injEq] at hg
    subst hg
    refine cels_of hb ?_ (by simp [r.1]; omega)
    rw [← h4, List.drop_take, List.take_take, Nat.min_eq_left (by omega)]
theorem Row.ia {sz : Nat} {e : TypeId} {h : Heap} {v : Value} {n : Nat} {xs : List Value} (r : Row sz e h v n xs) {k : IntKind} {i : Nat} (hi : i < n) : ∃ g, rowOf v = some g ∧ iaV (some (none, sz)) v (.int k i) = some (.pointer (some ⟨g, i * sz, none⟩)) := by
  obtain ⟨g, cap, cur, rfl, _⟩ := r.own (by omega)
  have : (i : Int) < n := by omega
  exact ⟨g, rfl, by simp [iaV, this]⟩
theorem Row.st {sz : Nat} {e : TypeId} {h : Heap} {v : Value} {n : Nat} {xs : List Value} (r : Row sz e h v n xs) {g : Nat} (hg : rowOf v = some g) {o m : Nat} {x : Value} {K : Heap → Prop} (hm : x.cells.size = m) (ho : o + m ≤ n * sz) (h1 : ∀ u ∈ x.cells.toList, u.oneCell' = true)
    (hk : ∀ h', (∀ k, k ≠ g → h' k = h k) → Row sz e h' v n (spl xs o x.cells.toList) → K h') : stM (some m) (.pointer (some ⟨g, o, none⟩)) x h K := by
  rcases r.2 with ⟨rfl, _⟩ | ⟨g', cap, cur, rfl, hb, h2, h3, h4, h5⟩
  · simp [rowOf] at hg
  · simp only [rowOf, Option.some.injEq] at hg
    subst hg
    have hnc : n * sz ≤ cap * sz := Nat.mul_le_mul_right _ h2
    refine st_intro hb hm (by omega) h1 fun h' ho' hb' => hk h' ho' ⟨by rw [spl_len (by simp [r.1, hm]; omega), r.1], .inr ⟨g', cap, _, rfl, hb', h2, h3, by rw [over_size, h4], ?_⟩⟩
    rw [over_list (by simp [hm]; omega), take_spl (by simp [hm]; omega) (by simp; omega), h5]
theorem Row.lt' {sz : Nat} {e : TypeId} {h : Heap} {v : Value} {n : Nat} {xs : List Value} (r : Row sz e h v n xs) {g : Nat} (hg : rowOf v = some g) : ∃ o, h g = some o := r.lt g hg
theorem Row.of_at {sz : Nat} {e : TypeId} {h h' : Heap} {v : Value} {n : Nat} {xs : List Value} (r : Row sz e h v n xs) (hk : ∀ g, rowOf v = some g → h' g = h g) : Row sz e h' v n xs := by
  refine ⟨r.1, ?_⟩
  rcases r.2 with h1 | ⟨g, cap, cur, rfl, h2, h3⟩
  · exact .inl h1
  · exact .inr ⟨g, cap, cur, rfl, (hk g rfl).trans h2, h3⟩
/-! A row told element by element. -/
def seqF (n : Nat) (F : Nat → List Value) : List Value := (List.range n).flatMap F
theorem seqF_succ (n : Nat) (F : Nat → List Value) : seqF (n + 1) F = seqF n F ++ F n := by simp [seqF, List.range_succ]
theorem seqF_len {n sz : Nat} {F : Nat → List Value} (h : ∀ i, i < n → (F i).length = sz) : (seqF n F).length = n * sz := by
  induction n with
  | zero => simp [seqF]
  | succ n ih => rw [seqF_succ, List.length_append, ih (fun i hi => h i (by omega)), h n (by omega), Nat.add_mul]; omega
theorem seqF_at {n sz : Nat} {F : Nat → List Value} (h : ∀ i, i < n → (F i).length = sz) {i : Nat} (hi : i < n) : ((seqF n F).drop (i * sz)).take sz = F i := by
  induction n with
  | zero => omega
  | succ n ih =>
    have hl := seqF_len (n := n) (sz := sz) (F := F) (fun i hi => h i (by omega))
    rw [seqF_succ]
    by_cases e : i = n
    · subst e
      rw [List.drop_append, List.drop_eq_nil_of_le (by omega), hl]; simp; rw [List.take_of_length_le (by rw [h i hi]; exact Nat.le_refl _)]
    · have hi' : i < n := by omega
      have : (i + 1) * sz ≤ n * sz := Nat.mul_le_mul_right _ hi'
      rw [Nat.add_mul] at this
      rw [List.drop_append_of_le_length (by omega), List.take_append_of_le_length (by simp [hl]; omega)]
      exact ih (fun i hi => h i (by omega)) hi'
theorem seqF_get {n sz : Nat} {F : Nat → List Value} (h : ∀ i, i < n → (F i).length = sz) {i j : Nat} (hi : i < n) (hj : j < sz) : (seqF n F)[i * sz + j]? = (F i)[j]? := by
  rw [← seqF_at h hi, List.getElem?_take_of_lt hj, List.getElem?_drop]
theorem seqF_congr {n : Nat} {F G : Nat → List Value} (h : ∀ i, i < n → F i = G i) : seqF n F = seqF n G := by
  induction n with
  | zero => rfl
  | succ n ih => rw [seqF_succ, seqF_succ, ih (fun i hi => h i (by omega)), h n (by omega)]
def fset (F : Nat → List Value) (i : Nat) (l : List Value) : Nat → List Value := fun j => if j = i then l else F j
theorem seqF_spl {n sz : Nat} {F : Nat → List Value} (h : ∀ i, i < n → (F i).length = sz) {i off : Nat} {l : List Value} (hi : i < n) (ho : off + l.length ≤ sz) : spl (seqF n F) (i * sz + off) l = seqF n (fset F i (spl (F i) off l)) := by
  have hz : ∀ j, j < n → (fset F i (spl (F i) off l) j).length = sz := fun j hj => by
    unfold fset; split
    · rw [spl_len (by rw [h i hi]; omega), h i hi]
    · exact h j hj
  have hin : (i + 1) * sz ≤ n * sz := Nat.mul_le_mul_right _ hi
  rw [Nat.add_mul] at hin
  apply List.ext_getElem?
  intro k
  rw [spl_get (by rw [seqF_len h]; omega)]
  by_cases hk : k < n * sz
  · by_cases hsz : sz = 0
    · subst hsz; omega
    have hq : k / sz < n := by rw [Nat.div_lt_iff_lt_mul (by omega)]; exact hk
    have hm : k % sz < sz := Nat.mod_lt _ (by omega)
    have hkk : k / sz * sz + k % sz = k := by rw [Nat.mul_comm]; exact Nat.div_add_mod k sz
    have e1 : (seqF n F)[k]? = (F (k / sz))[k % sz]? := by rw [← hkk, seqF_get h hq hm]; simp only [hkk]
    have e2 : (seqF n (fset F i (spl (F i) off l)))[k]? = (fset F i (spl (F i) off l) (k / sz))[k % sz]? := by rw [← hkk, seqF_get hz hq hm]; simp only [hkk]
    rw [e1, e2]
    by_cases hi2 : k / sz = i
    · subst hi2
      have : fset F (k / sz) (spl (F (k / sz)) off l) (k / sz) = spl (F (k / sz)) off l := by simp [fset]
      rw [this, spl_get (by rw [h _ hi]; omega)]
      by_cases hc : off ≤ k % sz ∧ k % sz < off + l.length
      · rw [if_pos (by omega), if_pos hc]; congr 1; omega
      · rw [if_neg (by omega), if_neg hc]
    · have : fset F i (spl (F i) off l) (k / sz) = F (k / sz) := by simp [fset, hi2]
      rw [this, if_neg]
      intro ⟨ha, hb⟩
      apply hi2
      have h1 : k / sz * sz < (i + 1) * sz := by rw [Nat.add_mul]; omega
      have h2 : i * sz < (k / sz + 1) * sz := by rw [Nat.add_mul]; omega
      have h3 := Nat.lt_of_mul_lt_mul_right h1
      have h4 := Nat.lt_of_mul_lt_mul_right h2
      omega
  · rw [if_neg (by omega), List.getElem?_eq_none (by rw [seqF_len h]; omega), List.getElem?_eq_none (by rw [seqF_len hz]; omega)]
theorem spl_whole {xs l : List Value} (h : l.length = xs.length) : spl xs 0 l = l := by simp [spl, h]
theorem Row.sl' {α : Type} {F : Nat → List Value} {sz : Nat} {R : Heap → List Value → α → Prop} {e : TypeId} {h : Heap} {v : Value} {xs : List α} (hF : ∀ i, i < xs.length → (F i).length = sz) (hR : ∀ i (hi : i < xs.length), R h (F i) xs[i])
    (r : Row sz e h v xs.length (seqF xs.length F)) : Sl sz R h v xs := by
  by_cases h0 : xs.length = 0
  · have : xs = [] := List.eq_nil_of_length_eq_zero h0
    subst this
    rcases r.2 with ⟨rfl, _⟩ | ⟨g, cap, cur, rfl, _⟩
    · exact .inl ⟨rfl, _, _, rfl⟩
    · exact .inl ⟨rfl, _, _, rfl⟩
  · obtain ⟨g, cap, cur, rfl, hb, h1, h2, h3, h4⟩ := r.own (by omega)
    refine .inr ⟨g, 0, cap, rfl, h1, h2, fun i hi => ⟨F i, ?_, hR i hi⟩⟩
    have : (i + 1) * sz ≤ xs.length * sz := Nat.mul_le_mul_right _ hi
    rw [Nat.add_mul] at this
    have := r.cels (g := g) rfl (o := i * sz) (m := sz) (by omega)
    rw [Nat.zero_add, this, seqF_at hF hi]
theorem seqF_list {α : Type} (enc : α → List Value) (d : α) : ∀ (xs : List α) (k : Nat), (List.range' k xs.length).flatMap (fun i => enc (xs.getD (i - k) d)) = xs.flatMap enc
  | [], _ => rfl
  | x :: xs, k => by
    rw [List.length_cons, List.range'_succ, List.flatMap_cons, List.flatMap_cons, Nat.sub_self, ← seqF_list enc d xs (k + 1)]
    congr 1
    rw [List.flatMap_def, List.flatMap_def]
    congr 1
    refine List.map_congr_left fun i hi => ?_
    rw [List.mem_range'_1] at hi
    rw [show i - k = (i - (k + 1)) + 1 by omega]
    simp
theorem seqF_enc {α : Type} (enc : α → List Value) (d : α) (xs : List α) : seqF xs.length (fun i => enc (xs.getD i d)) = xs.flatMap enc := by
  rw [← seqF_list enc d xs 0, seqF, List.range_eq_range']; rfl
/-! Rows of one cell each. -/
theorem row1_at {e : TypeId} {h : Heap} {v : Value} {n : Nat} {F : Nat → Value} (r : Row 1 e h v n (seqF n fun k => [F k])) {k : IntKind} {i : Nat} (hi : i < n) : ∃ g, rowOf v = some g ∧ iaV (some (none, 1)) v (.int k i) = some (.pointer (some ⟨g, i, none⟩)) ∧ cel h g i = some (F i) := by
  obtain ⟨g, h1, h2⟩ := r.ia (k := k) hi
  rw [Nat.mul_one] at h2
  refine ⟨g, h1, h2, ?_⟩
  have h3 := r.cels h1 (o := i * 1) (m := 1) (by omega)
  rw [seqF_at (F := fun k => [F k]) (fun _ _ => rfl) hi, Nat.mul_one] at h3
  have := (cels_get h3).2 0 (by simp)
  simpa using this
theorem row1_st {e : TypeId} {h : Heap} {v : Value} {n : Nat} {F : Nat → Value} (r : Row 1 e h v n (seqF n fun k => [F k])) {g i : Nat} (hg : rowOf v = some g) (hi : i < n) {x : Value} (hx : x.cells = #[x]) (h1 : x.oneCell' = true) {K : Heap → Prop}
    (hk : ∀ h', (∀ k, k ≠ g → h' k = h k) → Row 1 e h' v n (seqF n fun k => [if k = i then x else F k]) → K h') : stM (some 1) (.pointer (some ⟨g, i, none⟩)) x h K := by
  refine r.st hg (by rw [hx]; rfl) (by omega) (by rw [hx]; simpa using h1) fun h' ho hr => hk h' ho ?_
  have e := seqF_spl (sz := 1) (F := fun k => [F k]) (n := n) (fun _ _ => rfl) (i := i) (off := 0) (l := [x]) hi (by simp)
  rw [Nat.mul_one, Nat.add_zero] at e
  rw [hx] at hr
  rw [show (#[x] : Array Value).toList = [x] from rfl, e] at hr
  have : seqF n (fset (fun k => [F k]) i (spl [F i] 0 [x])) = seqF n (fun k => [if k = i then x else F k]) := seqF_congr fun k _ => by
    by_cases hk : k = i <;> simp [fset, hk, spl]
  rwa [this] at hr
theorem row1_congr {e : TypeId} {h : Heap} {v : Value} {n : Nat} {F G : Nat → Value} (r : Row 1 e h v n (seqF n fun k => [F k])) (he : ∀ i, i < n → F i = G i) : Row 1 e h v n (seqF n fun k => [G k]) := by
  have : seqF n (fun k => [F k]) = seqF n (fun k => [G k]) := seqF_congr fun i hi => by simp [he i hi]
  rwa [this] at r
/-- A row that 'make' has made. -/
theorem made_row {e : TypeId} {h : Heap} {b n : Nat} {z : Value} (hn : n ≤ maxLen) (hb : h b = some (.cells (madeCells #[z] (n * 1)) e (0, 0))) : Row 1 e h (.slice (some ⟨b, 0, none⟩) n n) n (seqF n fun _ => [z]) := by
  refine ⟨by rw [seqF_len (sz := 1) (fun _ _ => rfl)], .inr ⟨b, n, _, rfl, hb, Nat.le_refl _, hn, by simp [made_one], ?_⟩⟩
  rw [made_one]
  apply List.ext_getElem?
  intro i
  by_cases hi : i < n
  · have := seqF_get (F := fun _ => [z]) (n := n) (sz := 1) (fun _ _ => rfl) (i := i) (j := 0) hi (by omega)
    simp only [Nat.mul_one, Nat.add_zero] at this
    rw [this]; simp [hi]
  · rw [List.getElem?_eq_none (by simp; omega), List.getElem?_eq_none (by rw [seqF_len (sz := 1) (fun _ _ => rfl)]; omega)]
theorem fresh_of {h h' : Heap} (e : Ext h h') {b : Nat} (hb : h' b = none) : h b = none := by
  cases hh : h b with
  | none => rfl
  | some o => rw [e _ _ hh] at hb; cases hb
theorem ne_fresh {h : Heap} {a b : Nat} {o : Obj} (ha : h a = some o) (hb : h b = none) : a ≠ b := fun e => by subst e; rw [ha] at hb; cases hb
theorem ne_type {h : Heap} {a b : Nat} {c c' : Array Value} {e e' : TypeId} {f f' : Nat × Nat} (ha : h a = some (.cells c e f)) (hb : h b = some (.cells c' e' f')) (he : e ≠ e') : a ≠ b := fun x => by subst x; rw [ha] at hb; cases hb; exact he rfl
theorem MapR.obj {d : TypeDesc} {h : Heap} {r : Nat} {f : Value → Option Value} (m : MapR d h r f) : ∃ es ck, h r = some (.map es ck) := let ⟨es, ck, h1, _⟩ := m; ⟨es, ck, h1⟩
/-- A slice of one element, newly made. -/
theorem bs_one {P : Program} {t e : TypeId} {sz : Nat} {z : Array Value} {x : Value} {h : Heap} {K : Value → Heap → Prop} (hb : bsI P t = some (e, sz, z)) (hx : x.cells.size = sz) (hs : sz ≤ 16777216)
    (hk : ∀ b h', h b = none → Ext h h' → h' b = some (.cells x.cells e (0, 0)) → K (.slice (some ⟨b, 0, none⟩) 1 1) h') : bsM (bsI P t) 1 [(0, x)] h K := by
  rw [hb]
  simp only [bsM]
  rw [fill_one hx]
  exact ⟨by omega, fun b hbn => hk b _ hbn (Ext.upd hbn _) (upd_same _ _ _)⟩
theorem cels_one {h : Heap} {b : Nat} {x : Value} {e : TypeId} {f : Nat × Nat} (hb : h b = some (.cells x.cells e f)) {sz : Nat} (hx : x.cells.size = sz) : cels h b 0 (1 * sz) = some x.cells.toList := by
  refine cels_of hb ?_ (by simpa using hx)
  rw [List.drop_zero, List.take_of_length_le (by simpa using Nat.le_of_eq hx)]
/-! Append of a slice that is read. -/
theorem app_none {P : Program} {t ty e : TypeId} {sz bytes k : Nat} {v : Value} {n c : Nat} {a : Option Addr} {xs : List Value} {h : Heap} {K : Value → Heap → Prop} (ht : P.underlying t = some (.slice e)) (hi : apC P e = some (sz, bytes, k)) (hv : Row sz e h v n xs) (hk : K v h) :
    vvM P (Builtin.append_ #[t, t] ty #[v, .slice a 0 c]) h K := by
  unfold apC at hi
  cases hi1 : P.info? e with
  | none => simp [hi1] at hi
  | some i =>
    refine vv_of_run (v := v) (fun w => ?_) hk
    rcases hv.2 with ⟨rfl, rfl⟩ | ⟨g, cap, cur, rfl, _, hnc, _⟩
    · cases a <;> simp [Builtin.append_, run_underlying ht, sizeOf, typeInfo, hi1, Builtin.lenOf, Builtin.firstCells, loadCells, loadCellsFrom, storeCells]
    · cases a <;> simp [Builtin.append_, run_underlying ht, sizeOf, typeInfo, hi1, Builtin.lenOf, Builtin.firstCells, hnc, storeCells, loadCells, loadCellsFrom]
theorem cels_add {h : Heap} {b : Nat} : ∀ {n m o : Nat} {l l' : List Value}, cels h b o n = some l → cels h b (o + n) m = some l' → cels h b o (n + m) = some (l ++ l')
  | 0, m, o, l, l', h1, h2 => by simp only [cels, Option.some.injEq] at h1; subst h1; simpa using h2
  | n + 1, m, o, l, l', h1, h2 => by
    simp only [cels] at h1
    cases hc : cel h b o with
    | none => simp [hc] at h1
    | some v =>
      cases hr : cels h b (o + 1) n with
      | none => simp [hc, hr] at h1
      | some r =>
        simp only [hc, hr, Option.some.injEq] at h1
        subst h1
        have := cels_add (m := m) hr (by rw [show o + 1 + n = o + (n + 1) by omega]; exact h2)
        rw [show n + 1 + m = (n + m) + 1 by omega]
        simp only [cels, hc, this]
        rfl
theorem cels_flat {α : Type} {sz : Nat} {enc : α → List Value} {h : Heap} {b : Nat} : ∀ {xs : List α} {o : Nat}, (∀ i (hi : i < xs.length), cels h b (o + i * sz) sz = some (enc xs[i])) → cels h b o (xs.length * sz) = some (xs.flatMap enc)
  | [], o, _ => by simp [cels]
  | x :: xs, o, hx => by
    have h0 := hx 0 (by simp)
    have hr := cels_flat (xs := xs) (o := o + sz) (fun i hi => by have := hx (i + 1) (by simp; omega); rw [Nat.add_mul] at this; rw [show o + sz + i * sz = o + (i * sz + 1 * sz) by omega]; simpa using this)
    simp only [Nat.zero_mul, Nat.add_zero, List.getElem_cons_zero] at h0
    have := cels_add h0 hr
    rw [List.length_cons, Nat.add_mul, Nat.add_comm, Nat.one_mul]
    simpa using this
/-- append(v, ys...), of what is read element by element. -/
theorem app_sl {α : Type} {P : Program} {t ty e : TypeId} {sz bytes : Nat} {enc : α → List Value} {R : Heap → List Value → α → Prop} {v x : Value} {n : Nat} {xs : List Value} {ys : List α} {h : Heap} {K : Value → Heap → Prop}
    (ht : P.underlying t = some (.slice e)) (hi : apC P e = some (sz, bytes, sz)) (hsz : 0 < sz) (hv : Row sz e h v n xs) (hR : ∀ {h c y}, R h c y → c = enc y) (hx : Sl sz R h x ys) (h1 : ∀ y, ∀ u ∈ enc y, u.oneCell' = true)
    (h63 : n + ys.length ≤ maxLen) (hby : (n + ys.length) * bytes ≤ 140737488355328)
    (hk : ∀ v' h', Row sz e h' v' (n + ys.length) (xs ++ ys.flatMap enc) → Keep (rowOf v) h h' → (rowOf v' = rowOf v ∨ ∃ b, rowOf v' = some b ∧ h b = none) → K v' h') :
    vvM P (Builtin.append_ #[t, t] ty #[v, x]) h K := by
  rcases hx with ⟨rfl, a, c, rfl⟩ | ⟨b, o, cap, rfl, h2, h3, h4⟩
  · exact app_none ht hi hv (hk v h (by simpa using hv) (fun _ _ e _ => e) (.inl rfl))
  · refine app_intro ht hi hsz hv (news := ys.flatMap enc) (cels_flat fun i hi => ?_) (fun u hu => ?_) h63 hby hk
    · obtain ⟨c, h5, h6⟩ := h4 i hi
      rw [h5, hR h6]
    · obtain ⟨y, _, hy⟩ := List.mem_flatMap.1 hu
      exact h1 y u hy
/-- What is read of a row of known cells. -/
theorem Row.slE {α : Type} {enc : α → List Value} {sz : Nat} {R : Heap → List Value → α → Prop} {e : TypeId} {h : Heap} {v : Value} {xs : List α} (henc : ∀ x, (enc x).length = sz) (hR : ∀ x, R h (enc x) x)
    (r : Row sz e h v xs.length (xs.flatMap enc)) : Sl sz R h v xs := Row.sl henc hR r
@[simp] theorem bin_rem (t : Nat) (c : Bool) (k : IntKind) (a b : Int) (hb : b ≠ 0) : binV .rem t c (.int k a) (.int k b) = some (.int k (a.tmod b)) := by simp [binV, intV, hb]
@[simp] theorem bin_quo (t : Nat) (c : Bool) (k : IntKind) (a b : Int) (hb : b ≠ 0) : binV .quo t c (.int k a) (.int k b) = some (.int k (k.wrap (a.tdiv b))) := by simp [binV, intV, hb]
theorem tmod_pos {a b : Int} (h : 0 ≤ a) : a.tmod b = a % b := Int.tmod_eq_emod_of_nonneg h
theorem tmod_rng (a : Int) {b : Int} (hb : 0 < b) : -b < a.tmod b ∧ a.tmod b < b := ⟨Int.lt_tmod_of_pos a hb, Int.tmod_lt_of_pos a hb⟩
/-! Loops. -/
theorem loop_on {body : List Nat → Env → Heap → Post → Prop} {m : List Nat} {s0 : Env} {h0 : Heap} {Q : Post} (fix : List Nat) (I : Env → Heap → Prop) (μ : Env → Heap → Nat) (hi : I s0 h0)
    (hr : ∀ s h, (∀ i ∈ fix, s i = s0 i) → I s h → body m s h (lpM (fun m' s h => m' = m ∧ (∀ i ∈ fix, s i = s0 i) ∧ I s h) μ s h Q)) : loopM body m s0 h0 Q :=
  loop_intro (fun m' s h => m' = m ∧ (∀ i ∈ fix, s i = s0 i) ∧ I s h) μ ⟨rfl, fun _ _ => rfl, hi⟩ fun m' s h ⟨e, hf, hi⟩ => by subst e; exact hr s h hf hi
theorem seqM_eq (A : Post → Prop) (K : List Nat → Env → Heap → Prop) (Q : Post) : seqM A K Q = A (thenM K Q) := rfl
@[simp] theorem envOf_get (l : List Value) (i : Nat) : envOf l i = (l[i]?).getD undef := by unfold envOf; cases l[i]? <;> rfl
@[simp] theorem puts_env (l : List (Nat × Value)) (s : Env) (i : Nat) : puts s l i = (lk l i).getD (s i) := puts_lk l s i
end Go.Den

/-! DEN, part T: '==' of structs that hold but bools, numbers and texts. -/
namespace Go.Den
open Go
def eqFs (P : Program) (eq : TypeId → Value → Value → Option Bool) (xs ys : Array Value) : List Field → Option Bool
  | [] => some true
  | f :: fs => if f.name = "_" then eqFs P eq xs ys fs else match fdV ((tagg P f.type).map fun k => (k, f.offset)) (.agg xs), fdV ((tagg P f.type).map fun k => (k, f.offset)) (.agg ys) with
    | some a, some b => match eq f.type a b, eqFs P eq xs ys fs with
      | some r, some q => some (r && q)
      | _, _ => none
    | _, _ => none
def eqS (P : Program) : Nat → TypeId → Value → Value → Option Bool
  | 0, _, _, _ => none
  | d + 1, t, x, y => match P.underlying t, x, y with
    | some .bool, .bool a, .bool b => some (a == b)
    | some (.int _), .int k a, .int k' b => if k = k' then some (a == b) else none
    | some .string, .string a, .string b => some (a.toList == b.toList)
    | some (.struct fs), .agg xs, .agg ys => if P.stoodInHeld t then none else eqFs P (eqS P d) xs ys fs.toList
    | _, _, _ => none
theorem run_eqS {P : Program} : ∀ {d n : Nat} {t : TypeId} {x y : Value} {b : Bool} {w : World}, d ≤ n → eqS P d t x y = some b → (Op.equalIn n t x y).run P w = .ok b w := by
  intro d
  induction d with
  | zero => intro n t x y b w _ h; simp [eqS] at h
  | succ d ih =>
    intro n t x y b w hn h
    obtain ⟨m, rfl⟩ : ∃ m, n = m + 1 := ⟨n - 1, by omega⟩
    unfold eqS at h
    split at h
    · rename_i hu; simp only [Option.some.injEq] at h; subst h; simp [Op.equalIn, run_underlying hu]
    · rename_i hu
      split at h
      · simp only [Option.some.injEq] at h; subst_vars; simp [Op.equalIn, run_underlying hu]
      · cases h
    · rename_i hu; simp only [Option.some.injEq] at h; subst h; simp [Op.equalIn, run_underlying hu, beq_toListBytes]
    · rename_i fs xs ys hu
      split at h
      · cases h
      · rename_i hp
        have hf : P.fieldsOf t = fs := by simp [Program.fieldsOf, hu]
        rw [run_equalIn_struct w m t xs ys (by rw [hf]; exact hu) (by simpa using hp), hf]
        clear hu hf hp
        generalize fs.toList = l at h
        induction l generalizing b w with
        | nil => simp only [eqFs, Option.some.injEq] at h; subst h; simp [Op.eqFields]
        | cons f l ihl =>
          unfold eqFs at h
          unfold Op.eqFields
          split at h
          · rename_i hnm
            simp only [hnm, ne_eq, not_true, if_false]
            exact ihl h
          · rename_i hnm
            simp only [ne_eq, hnm, not_false_eq_true, if_true]
            split at h
            · rename_i a c ha hc
              split at h
              · rename_i r q hr hq
                simp only [Option.some.injEq] at h
                cases ht : tagg P f.type with
                | none => rw [ht] at ha; simp [fdV] at ha
                | some k =>
                  rw [ht] at ha hc
                  simp only [Option.map_some] at ha hc
                  have h1 := run_part (w := w) ht ha
                  have h2 := run_part (w := w) ht hc
                  have h3 := ih (w := w) (n := m) (by omega) hr
                  simp only [Sem.run_bind, h1, h2, h3, Result.andThen_ok]
                  cases r
                  · simp at h; subst h; simp
                  · simp at h; subst h; simp; exact ihl hq
              · cases h
            · cases h
    · cases h
theorem pv_eqS {P : Program} {t : TypeId} {x y : Operand} {xs ys : Array Value} {b : Bool} {d : Nat} {K : Value → Prop} (he : eqS P d t (.agg xs) (.agg ys) = some b) (hd : d ≤ 10000) (hg : P.eqGuardType P.depth t = false) :
    (K (.bool b) → pvM P (do eqGuard .eql t x y (.agg xs) (.agg ys); binOp .eql t (.agg xs) (.agg ys)) K) ∧
    (K (.bool (!b)) → pvM P (do eqGuard .neq t x y (.agg xs) (.agg ys); binOp .neq t (.agg xs) (.agg ys)) K) := by
  refine ⟨fun hk => ⟨_, fun w => ?_, hk⟩, fun hk => ⟨_, fun w => ?_, hk⟩⟩
  · simp only [Sem.run_bind, run_eqGuard_agg w _ t x y xs ys hg, Result.andThen_ok, run_eql_struct, run_eqS hd he]
  · simp only [Sem.run_bind, run_eqGuard_agg w _ t x y xs ys hg, Result.andThen_ok, run_neq_struct, run_eqS hd he]
theorem pv_eq {P : Program} {S : Sem Value} {v : Value} {K : Value → Prop} (h : ∀ w, S.run P w = .ok v w) : pvM P S K = K v := by
  refine propext ⟨fun ⟨u, hu, hk⟩ => ?_, fun hk => ⟨v, h, hk⟩⟩
  have := (h default).symm.trans (hu default)
  simp only [Result.ok.injEq, and_true] at this
  subst this; exact hk
theorem pv_eql {P : Program} {t : TypeId} {x y : Operand} {xs ys : Array Value} {b : Bool} {d : Nat} {K : Value → Prop} (he : eqS P d t (.agg xs) (.agg ys) = some b) (hd : d ≤ 10000) (hg : P.eqGuardType P.depth t = false) :
    pvM P (do eqGuard .eql t x y (.agg xs) (.agg ys); binOp .eql t (.agg xs) (.agg ys)) K = K (.bool b) :=
  pv_eq fun w => by simp only [Sem.run_bind, run_eqGuard_agg w _ t x y xs ys hg, Result.andThen_ok, run_eql_struct, run_eqS hd he]
theorem pv_neq {P : Program} {t : TypeId} {x y : Operand} {xs ys : Array Value} {b : Bool} {d : Nat} {K : Value → Prop} (he : eqS P d t (.agg xs) (.agg ys) = some b) (hd : d ≤ 10000) (hg : P.eqGuardType P.depth t = false) :
    pvM P (do eqGuard .neq t x y (.agg xs) (.agg ys); binOp .neq t (.agg xs) (.agg ys)) K = K (.bool (!b)) :=
  pv_eq fun w => by simp only [Sem.run_bind, run_eqGuard_agg w _ t x y xs ys hg, Result.andThen_ok, run_neq_struct, run_eqS hd he]
@[congr] theorem pvM_cong {P : Program} {S S' : Sem Value} {K : Value → Prop} (h : S = S') : pvM P S K = pvM P S' K := by rw [h]
/-- '!awake() || len(x) > lim', awake. -/
theorem guard_len {x : Value} {n : Nat} {lim : Int} {h : Heap} {A B : Value → Value → Value → Value → Value → Heap → Prop} (hx : lnV 7 x = some (.int .i64 n))
    (h1 : lim < n → A (.bool false) x (.int .i64 n) (.bool true) (.bool true) h) (h2 : (n : Int) ≤ lim → B (.bool false) x (.int .i64 n) (.bool false) (.bool false) h) :
    ov (unV .not (.bool true)) fun v3 => gM (isB v3 false) (fun k => k x h) h fun v4 h5 => gM (isB v3 false) (fun k => ov (lnV 7 v4) fun v => k v h5) h5 fun v7 h8 =>
      gM (isB v3 false) (fun k => ov (binV .gtr 2 true v7 (.int .i64 lim)) fun v => k v h8) h8 fun v11 h12 => ov (pkV v3 (.bool true) v11) fun v15 => cdM v15 (A v3 v4 v7 v11 v15 h12) (B v3 v4 v7 v11 v15 h12) := by
  by_cases hc : lim < n
  · simp [ov, unV, gM, isB, hx, binV, intV, hc, pkV, cdM]
    exact h1 hc
  · simp [ov, unV, gM, isB, hx, binV, intV, hc, pkV, cdM]
    exact h2 (by omega)
end Go.Den

/-! DEN, part U: calls of function values. -/
namespace Go.Den
open Go
theorem nx_fn {P : Program} {g : Nat → Bool} (hg : GoodP P g) {f : FuncId} (hf : g f = true) {args cap : Array Value} {h : Heap} {K : Value → Heap → Prop} (hd : callM P f (args ++ cap) h K) :
    nxM P (do let d ← Deferred.ofValue (.func (.func f) #[] cap) args; invoke d.target d.args) h K := by
  intro w hw
  obtain ⟨fn, h1, h2, h3⟩ := hg f hf
  refine .inr (.inr (.inl ⟨f, args ++ cap, w, ?_, Okw.refl w, by rw [hw]; exact hd⟩))
  have h3' : ¬ fn.name = "runtime.NumGoroutine" := by simpa using h3
  have h2' : ¬ fn.body = none := by intro hb; simp [hb] at h2
  simp [Deferred.ofValue, invoke, callFunc, h1, h2', h3']
end Go.Den

/-! DEN, part W: the rounds of a range over a function. -/
namespace Go.Den
open Go
variable {P : Program} {g : Nat → Bool}
/-- The ranges over functions of a code, in the order of the text. -/
def rfs : Code → List (Code × Code)
  | .seq a b => rfs a ++ rfs b
  | .cond _ x y => rfs x ++ rfs y
  | .block _ c => rfs c
  | .scope c => rfs c
  | .loop c => rfs c
  | .rangeFunc _ _ x y => [(x, y)]
  | _ => []
def rfOf (P : Program) (f : Nat) : List (Code × Code) := match P.funcs[f]? with
  | some fn => match fn.body with
    | some c => rfs c
    | none => []
  | none => []
/-- The assignments, and the body, of a function's k-th one. -/
def rfA (P : Program) (f k : Nat) : Code := ((rfOf P f).getD k (.skip, .skip)).1
def rfB (P : Program) (f k : Nat) : Code := ((rfOf P f).getD k (.skip, .skip)).2
/-- How a round is left. -/
def endM (l : Nat) (K : Value → Heap → Prop) : Post := fun e _ _ h => ∃ r : Loop, h l = some (.loop r) ∧ match e with
  | .normal => K (.bool true) (upd h l (.loop { r with state := .ready, pending := none }))
  | .ret => K (.bool false) (upd h l (.loop { r with state := .done, pending := some .ret }))
  | .exit id => K (.bool false) (upd h l (.loop { r with state := .done, pending := some (.exit id) }))
  | _ => False
/-- How its assignments are left. -/
def begM (P : Program) (g : Nat → Bool) (l : Nat) (bd : Code) (K : Value → Heap → Prop) : Post := fun e m s h => match e with
  | .normal => ∃ r : Loop, h l = some (.loop r) ∧ r.state = .ready ∧ den P g bd m s (upd h l (.loop { r with state := .busy })) (endM l K)
  | _ => False
theorem round_of_den (hg : GoodP P g) (hm : P.follows .mixedOrders = true) {l : Nat} {fn : FuncId} {tmps : Array Value} {as bd : Code} {s : Env} {h : Heap} {K : Value → Heap → Prop}
    (hs : ∀ i, tmps.getD i undef = s i) (hf : (fits tmps.size as && fits tmps.size bd && nrf as && nrf bd) = true) (hd : den P g as [] s h (begM P g l bd K)) : roundM P l fn tmps as bd h K := by
  intro w hw
  subst hw
  simp only [Bool.and_eq_true] at hf
  obtain ⟨⟨⟨f1, f2⟩, f3⟩, f4⟩ := hf
  refine roundIn_of_wpIn (F := Fence.wide) trivial (wpIn_mono (den_sound hg hm (n := tmps.size) (r := some l) as [] s _ _ w (.inr f3) f1 ⟨rfl, hs, rfl⟩ hd) ?_)
  intro e a' w' hq
  cases e with
  | normal =>
    obtain ⟨m', s', hR', ho, r, hl, hst, hb⟩ := hq
    have hl' : w'.heap[l]? = some (.loop r) := hl
    refine ⟨_, run_beginRound hl' hst, ?_⟩
    rw [← abs_putObj hl'] at hb
    have ho2 : Okw w (w'.putObj l (.loop { r with state := .busy })) := ho.trans ⟨rfl, rfl, rfl, by simp [World.putObj]⟩
    refine wpIn_mono (den_sound hg hm (n := tmps.size) (r := some l) bd m' s' _ _ _ (.inr f4) f2 hR' hb) ?_
    intro e2 a2 w2 hq2
    cases e2 with
    | normal =>
      obtain ⟨m2, s2, hR2, ho3, r2, hl2, hk⟩ := hq2
      have hl2' : w2.heap[l]? = some (.loop r2) := hl2
      refine ⟨_, _, run_endRound none hl2', _, rfl, (ho2.trans ho3).trans ⟨rfl, rfl, rfl, by simp [World.putObj]⟩, ?_⟩
      rw [abs_putObj hl2']; exact hk
    | ret =>
      obtain ⟨m2, s2, hR2, ho3, r2, hl2, hk⟩ := hq2
      have hl2' : w2.heap[l]? = some (.loop r2) := hl2
      refine ⟨_, _, run_endRound (some .ret) hl2', _, rfl, (ho2.trans ho3).trans ⟨rfl, rfl, rfl, by simp [World.putObj]⟩, ?_⟩
      rw [abs_putObj hl2']; exact hk
    | exit id =>
      obtain ⟨m2, s2, hR2, ho3, r2, hl2, hk⟩ := hq2
      have hl2' : w2.heap[l]? = some (.loop r2) := hl2
      refine ⟨_, _, run_endRound (some (.exit id)) hl2', _, rfl, (ho2.trans ho3).trans ⟨rfl, rfl, rfl, by simp [World.putObj]⟩, ?_⟩
      rw [abs_putObj hl2']; exact hk
    | goto t => obtain ⟨m2, s2, hR2, ho3, r2, hl2, hk⟩ := hq2; exact hk.elim
    | panic c => exact hq2.elim
    | outgrown => exact hq2.elim
  | goto t => obtain ⟨_, _, _, _, hk⟩ := hq; exact hk.elim
  | ret => obtain ⟨_, _, _, _, hk⟩ := hq; exact hk.elim
  | exit id => obtain ⟨_, _, _, _, hk⟩ := hq; exact hk.elim
  | panic c => exact hq.elim
  | outgrown => exact hq.elim
/-- A call of yield: a round of the loop. -/
theorem nx_yield {l : Nat} {r : Loop} {args : Array Value} {h : Heap} {K : Value → Heap → Prop} (hl : h l = some (.loop r)) (hs : args.size = r.params.size)
    (hd : roundM P l r.fn ((r.params.zip args).foldl (fun tmps (t, a) => tmps.setIfInBounds t a) r.tmps) r.assign r.body h K) :
    nxM P (do let d ← Deferred.ofValue (.func (.yield l) #[] #[]) args; invoke d.target d.args) h K := by
  intro w hw
  have hl' : w.heap[l]? = some (.loop r) := by rw [← hw] at hl; exact hl
  have hy := run_yield (P := P) hl' hs
  refine .inr (.inr (.inr ⟨l, r.fn, _, r.assign, r.body, w, ?_, Okw.refl w, by rw [hw]; exact hd⟩))
  simp [Deferred.ofValue, invoke, hy]
end Go.Den

/-! DEN, part X: blocks with tags: what is changed by whom. -/
namespace Go.Den
open Go
set_option linter.unusedVariables false
abbrev Tag := List Nat
abbrev Tags := Nat → Tag
/-- What no one changes any more: the blocks without a tag. -/
def fz (T : Tags) (h : Heap) : Heap := fun b => if T b = [] then h b else none
def Wf (T : Tags) (h : Heap) : Prop := ∀ b, h b = none → T b = []
def pre (g t : Tag) : Prop := g <+: t
def non (_ : Tag) : Prop := False
def two (U V : Tag → Prop) (t : Tag) : Prop := U t ∨ V t
/-- From a heap to another one; but blocks with tags of U stay as they were. -/
structure Only (U : Tag → Prop) (T : Tags) (h : Heap) (T' : Tags) (h' : Heap) : Prop where
  wf : Wf T' h'
  tg : ∀ b o, h b = some o → T' b = T b
  al : ∀ b o, h b = some o → ∃ o', h' b = some o'
  kp : ∀ b o, h b = some o → ¬ U (T b) → h' b = some o
theorem Only.refl {U : Tag → Prop} {T : Tags} {h : Heap} (w : Wf T h) : Only U T h T h := ⟨w, fun _ _ _ => rfl, fun _ o e => ⟨o, e⟩, fun _ _ e _ => e⟩
theorem Only.trans {U : Tag → Prop} {T T' T'' : Tags} {h h' h'' : Heap} (x : Only U T h T' h') (y : Only U T' h' T'' h'') : Only U T h T'' h'' :=
  ⟨y.wf, fun b o e => by obtain ⟨o', e'⟩ := x.al b o e; rw [y.tg b o' e', x.tg b o e], fun b o e => by obtain ⟨o', e'⟩ := x.al b o e; exact y.al b o' e',
    fun b o e n => y.kp b o (x.kp b o e n) (by rw [x.tg b o e]; exact n)⟩
theorem Only.mono {U V : Tag → Prop} {T T' : Tags} {h h' : Heap} (x : Only U T h T' h') (m : ∀ t, U t → V t) : Only V T h T' h' := ⟨x.wf, x.tg, x.al, fun b o e n => x.kp b o e (fun u => n (m _ u))⟩
/-- What a frame is asked of: blocks without a tag of U keep tag and contents. -/
def Kp (U : Tag → Prop) (T : Tags) (h : Heap) (T' : Tags) (h' : Heap) : Prop := ∀ b o, h b = some o → ¬ U (T b) → T' b = T b ∧ h' b = some o
theorem Only.k {U : Tag → Prop} {T T' : Tags} {h h' : Heap} (x : Only U T h T' h') : Kp U T h T' h' := fun b o e n => ⟨x.tg b o e, x.kp b o e n⟩
theorem Kp.ext {U : Tag → Prop} {T T' : Tags} {h h' : Heap} (x : Kp U T h T' h') (u : ¬ U []) : Ext (fz T h) (fz T' h') := fun b o e => by
  unfold fz at e ⊢
  split at e
  · rename_i ht
    obtain ⟨h1, h2⟩ := x b o e (by rw [ht]; exact u)
    rw [h1, if_pos ht, h2]
  · cases e
theorem Only.ext {U : Tag → Prop} {T T' : Tags} {h h' : Heap} (x : Only U T h T' h') (u : ¬ U []) : Ext (fz T h) (fz T' h') := x.k.ext u
theorem Kp.at {U : Tag → Prop} {T T' : Tags} {h h' : Heap} (x : Kp U T h T' h') {b : Nat} {o : Obj} {t : Tag} (e : h b = some o) (ht : T b = t) (n : ¬ U t) : h' b = some o ∧ T' b = t := by
  obtain ⟨h1, h2⟩ := x b o e (by rw [ht]; exact n)
  exact ⟨h2, by rw [h1, ht]⟩
theorem Only.of_ext {U : Tag → Prop} {T : Tags} {h h' : Heap} (w : Wf T h) (e : Ext h h') : Only U T h T h' :=
  ⟨fun b n => w b (by cases hb : h b with | none => rfl | some o => rw [e b o hb] at n; cases n), fun _ _ _ => rfl, fun b o x => ⟨o, e b o x⟩, fun b o x _ => e b o x⟩
def tset (T : Tags) (b : Nat) (t : Tag) : Tags := fun k => if k = b then t else T k
@[simp] theorem tset_same (T : Tags) (b : Nat) (t : Tag) : tset T b t b = t := by simp [tset]
theorem tset_ne {T : Tags} {b k : Nat} {t : Tag} (h : k ≠ b) : tset T b t k = T k := by simp [tset, h]
theorem Only.new {U : Tag → Prop} {T : Tags} {h : Heap} {b : Nat} {o : Obj} (t : Tag) (w : Wf T h) (n : h b = none) : Only U T h (tset T b t) (upd h b o) := by
  have hne : ∀ k x, h k = some x → k ≠ b := fun k x e hk => by subst hk; rw [n] at e; cases e
  refine ⟨fun k hk => ?_, fun k x e => tset_ne (hne k x e), fun k x e => ⟨x, by rw [upd_ne (hne k x e)]; exact e⟩, fun k x e _ => by rw [upd_ne (hne k x e)]; exact e⟩
  by_cases hkb : k = b
  · subst hkb; rw [upd_same'] at hk; cases hk
  · rw [upd_ne hkb] at hk; rw [tset_ne hkb]; exact w k hk
/-- A block that is tagged is written. -/
theorem Only.upd {U : Tag → Prop} {T : Tags} {h : Heap} {b : Nat} {o o' : Obj} (w : Wf T h) (e : h b = some o) (u : U (T b)) : Only U T h T (upd h b o') := by
  refine ⟨fun k hk => ?_, fun _ _ _ => rfl, fun k x ek => ?_, fun k x ek n => ?_⟩
  · by_cases hkb : k = b
    · subst hkb; rw [upd_same'] at hk; cases hk
    · rw [upd_ne hkb] at hk; exact w k hk
  · by_cases hkb : k = b
    · subst hkb; exact ⟨_, upd_same' _ _ _⟩
    · exact ⟨x, by rw [upd_ne hkb]; exact ek⟩
  · by_cases hkb : k = b
    · subst hkb; exact absurd u n
    · rw [upd_ne hkb]; exact ek
theorem fz_ext (T : Tags) (h : Heap) : Ext (fz T h) h := fun b o e => by
  unfold fz at e
  split at e
  · exact e
  · cases e
theorem fz_nil (h : Heap) : fz (fun _ => []) h = h := by funext b; simp [fz]
theorem wf_nil (h : Heap) : Wf (fun _ => []) h := fun _ _ => rfl
theorem fz_at {T : Tags} {h : Heap} {b : Nat} {o : Obj} (e : h b = some o) (t : T b = []) : fz T h b = some o := by simp [fz, t, e]
theorem fz_new {T : Tags} {h h' : Heap} {b : Nat} {o : Obj} (w : Wf T h) (n : h b = none) (e : h' b = some o) : fz T h' b = some o := fz_at e (w b n)
theorem fz_of_ext {T : Tags} {h h' : Heap} (e : Ext h h') : Ext (fz T h) (fz T h') := fun b o x => by
  unfold fz at x ⊢
  split at x
  · rename_i t; rw [if_pos t]; exact e b o x
  · cases x
theorem Wf.ext {T : Tags} {h h' : Heap} (w : Wf T h) (e : Ext h h') : Wf T h' := (Only.of_ext (U := non) w e).wf
/-- A block that keeps its tag keeps what it holds, if no tag of U is its. -/
theorem Only.at {U : Tag → Prop} {T T' : Tags} {h h' : Heap} (x : Only U T h T' h') {b : Nat} {o : Obj} {t : Tag} (e : h b = some o) (ht : T b = t) (n : ¬ U t) : h' b = some o ∧ T' b = t := ⟨x.kp b o e (by rw [ht]; exact n), by rw [x.tg b o e, ht]⟩
/-! What the heap has, it keeps. -/
theorem okw_al {w w' : World} (o : Okw w w') : ∀ b x, abs w b = some x → ∃ x', abs w' b = some x' := fun b x e => by
  have hb : b < w.heap.size := (Array.getElem?_eq_some_iff.1 e).1
  exact ⟨w'.heap[b]'(Nat.lt_of_lt_of_le hb o.size), by simp [abs, Nat.lt_of_lt_of_le hb o.size]⟩
theorem vv_al {P : Program} {S : Sem Value} {h : Heap} {K : Value → Heap → Prop} (x : vvM P S h fun v h' => (∀ b o, h b = some o → ∃ o', h' b = some o') → K v h') : vvM P S h K := fun w hw => by
  obtain ⟨v, w', hr, ho, hk⟩ := x w hw
  refine ⟨v, w', hr, ho, hk ?_⟩
  subst hw
  exact okw_al ho
theorem u_al {P : Program} {S : Sem Unit} {h : Heap} {K : Heap → Prop} (x : uM P S h fun h' => (∀ b o, h b = some o → ∃ o', h' b = some o') → K h') : uM P S h K := fun w hw => by
  obtain ⟨w', hr, ho, hk⟩ := x w hw
  refine ⟨w', hr, ho, hk ?_⟩
  subst hw
  exact okw_al ho
/-! Stores into a block that is known whole. -/
theorem upd_of {h h' : Heap} {b : Nat} {o : Obj} (k : ∀ c, c ≠ b → h' c = h c) (e : h' b = some o) : h' = upd h b o := by
  funext c
  by_cases hc : c = b
  · subst hc; rw [upd_same', e]
  · rw [upd_ne hc, k c hc]
theorem st_upd {n b o : Nat} {e : TypeId} {v : Value} {h : Heap} {c : Array Value} {K : Heap → Prop} (hb : h b = some (.cells c e (0, 0))) (hn : v.cells.size = n) (hs : o + n ≤ c.size) (h1 : ∀ u ∈ v.cells.toList, u.oneCell' = true)
    (hk : K (upd h b (.cells (over c o v.cells.toList) e (0, 0)))) : stM (some n) (.pointer (some ⟨b, o, none⟩)) v h K :=
  st_intro hb hn hs h1 fun h' k e => by rw [upd_of k e]; exact hk
theorem upd_upd (h : Heap) (b : Nat) (o o' : Obj) : upd (upd h b o) b o' = upd h b o' := by
  funext c
  by_cases hc : c = b
  · subst hc; simp only [upd_same']
  · simp only [upd_ne hc]
/-! A row of one's own, tagged. -/
def Rw (T : Tags) (h : Heap) (g : Tag) (sz : Nat) (e : TypeId) (v : Value) (n : Nat) (xs : List Value) : Prop := Row sz e h v n xs ∧ ∀ b, rowOf v = some b → T b = g
theorem Rw.kp {U : Tag → Prop} {T T' : Tags} {h h' : Heap} {g : Tag} {sz : Nat} {e : TypeId} {v : Value} {n : Nat} {xs : List Value} (r : Rw T h g sz e v n xs) (x : Kp U T h T' h') (u : ¬ U g) : Rw T' h' g sz e v n xs := by
  refine ⟨r.1.of_at fun b hb => ?_, fun b hb => ?_⟩
  · obtain ⟨o, ho⟩ := r.1.lt b hb
    rw [ho, (x b o ho (by rw [r.2 b hb]; exact u)).2]
  · obtain ⟨o, ho⟩ := r.1.lt b hb
    rw [(x b o ho (by rw [r.2 b hb]; exact u)).1, r.2 b hb]
theorem Rw.nil (T : Tags) (h : Heap) (g : Tag) (sz : Nat) (e : TypeId) : Rw T h g sz e (.slice none 0 0) 0 [] := ⟨⟨by simp, .inl ⟨rfl, rfl⟩⟩, fun b hb => by simp [rowOf] at hb⟩
theorem Rw.len {T : Tags} {h : Heap} {g : Tag} {sz : Nat} {e : TypeId} {v : Value} {n : Nat} {xs : List Value} (r : Rw T h g sz e v n xs) : lnV 7 v = some (.int .i64 n) := by
  rcases r.1.2 with ⟨rfl, rfl⟩ | ⟨b, cap, cur, rfl, _⟩ <;> rfl
/-- append(s, xs...) onto one's own row: what is appended lies in a block. -/
theorem Rw.app0 {P : Program} {t ty e : TypeId} {sz bytes m c o : Nat} {g : Tag} {v : Value} {n b : Nat} {xs news : List Value} {T : Tags} {h : Heap} {K : Value → Heap → Prop}
    (ht : P.underlying t = some (.slice e)) (hi : apC P e = some (sz, bytes, sz)) (hsz : 0 < sz) (w : Wf T h) (hv : Rw T h g sz e v n xs) (hb : cels h b o (m * sz) = some news) (h1 : ∀ u ∈ news, u.oneCell' = true)
    (h63 : n + m ≤ maxLen) (hby : (n + m) * bytes ≤ 140737488355328)
    (hk : ∀ v' T' h', Only (fun t => t = g) T h T' h' → Rw T' h' g sz e v' (n + m) (xs ++ news) → (rowOf v' = rowOf v ∨ ∃ b, rowOf v' = some b ∧ h b = none) → K v' h') :
    vvM P (Builtin.append_ #[t, t] ty #[v, .slice (some ⟨b, o, none⟩) m c]) h K := by
  refine vv_al ?_
  refine app_intro ht hi hsz hv.1 hb h1 h63 hby fun v' h' hr hkp ha hal => ?_
  have hrow : ∀ k, rowOf v = some k → T k = g := hv.2
  rcases ha with ha | ⟨k, ha, hn⟩
  · refine hk v' T h' ⟨fun k hk0 => ?_, fun _ _ _ => rfl, fun k o e => hal k o e, fun k o e n => hkp k o e (fun hh => n (hrow k hh.symm))⟩ ⟨hr, fun k hk0 => hrow k (by rw [← ha]; exact hk0)⟩ (.inl ha)
    cases hh : h k with
    | none => exact w k hh
    | some o => obtain ⟨o', ho'⟩ := hal k o hh; rw [ho'] at hk0; cases hk0
  · have hne : ∀ j o, h j = some o → j ≠ k := fun j o e hj => by subst hj; rw [hn] at e; cases e
    refine hk v' (tset T k g) h' ⟨fun j hj => ?_, fun j o e => tset_ne (hne j o e), fun j o e => hal j o e, fun j o e n => hkp j o e (fun hh => n (hrow j hh.symm))⟩ ⟨hr, fun j hj => ?_⟩ (.inr ⟨k, ha, hn⟩)
    · have hjk : j ≠ k := fun e => by
        subst e
        obtain ⟨o, ho⟩ := hr.lt j ha
        rw [ho] at hj; cases hj
      rw [tset_ne hjk]
      cases hh : h j with
      | none => exact w j hh
      | some o => obtain ⟨o', ho'⟩ := hal j o hh; rw [ho'] at hj; cases hj
    · rw [ha] at hj
      simp only [Option.some.injEq] at hj
      subst hj
      simp
theorem Rw.app1 {P : Program} {t ty e : TypeId} {sz bytes m c o : Nat} {g : Tag} {v : Value} {n b : Nat} {xs news : List Value} {T : Tags} {h : Heap} {K : Value → Heap → Prop}
    (ht : P.underlying t = some (.slice e)) (hi : apC P e = some (sz, bytes, sz)) (hsz : 0 < sz) (w : Wf T h) (hv : Rw T h g sz e v n xs) (hb : cels h b o (m * sz) = some news) (h1 : ∀ u ∈ news, u.oneCell' = true)
    (h63 : n + m ≤ maxLen) (hby : (n + m) * bytes ≤ 140737488355328)
    (hk : ∀ v' T' h', Only (fun t => t = g) T h T' h' → Rw T' h' g sz e v' (n + m) (xs ++ news) → K v' h') :
    vvM P (Builtin.append_ #[t, t] ty #[v, .slice (some ⟨b, o, none⟩) m c]) h K :=
  Rw.app0 ht hi hsz w hv hb h1 h63 hby fun v' T' h' o r _ => hk v' T' h' o r
/-- append(s, x) onto one's own row. -/
theorem Rw.app {P : Program} {t ty e : TypeId} {sz bytes : Nat} {z : Array Value} {g : Tag} {v x : Value} {n : Nat} {xs : List Value} {T : Tags} {h : Heap} {K : Value → Value → Heap → Prop}
    (hb : bsI P t = some (e, sz, z)) (ht : P.underlying t = some (.slice e)) (hi : apC P e = some (sz, bytes, sz)) (hsz : 0 < sz) (hx : x.cells.size = sz) (h1 : ∀ u ∈ x.cells.toList, u.oneCell' = true) (w : Wf T h)
    (hv : Rw T h g sz e v n xs) (h63 : n + 1 ≤ maxLen) (hby : (n + 1) * bytes ≤ 140737488355328) (hs : sz ≤ 16777216) (hg : g ≠ [])
    (hk : ∀ a v' T' h', Only (fun t => t = g) T h T' h' → Rw T' h' g sz e v' (n + 1) (xs ++ x.cells.toList) → K a v' h') :
    bsM (bsI P t) 1 [(0, x)] h fun a h' => vvM P (Builtin.append_ #[t, t] ty #[v, a]) h' (K a) := by
  refine bs_one hb hx hs fun b h1' hbn he hc => ?_
  have o1 : Only (fun t => t = g) T h T h1' := Only.of_ext w he
  exact Rw.app1 ht hi hsz o1.wf (hv.kp (U := non) (Only.of_ext w he).k (fun h => h)) (cels_one hc hx) h1 h63 hby fun v' T' h' o2 hr => hk _ v' T' h' (o1.trans o2) hr
end Go.Den

/-! DEN, part Y: heaps that are written down: loads and stores by calculation. -/
namespace Go.Den
open Go
set_option linter.unusedVariables false
theorem stC_eq {b : Nat} {e : TypeId} : ∀ {l : List Value} {o : Nat} {h : Heap} {c : Array Value} {K : Heap → Prop}, h b = some (.cells c e (0, 0)) → o + l.length ≤ c.size → (∀ v ∈ l, v.oneCell' = true) →
    stC b o l h K = K (upd h b (.cells (over c o l) e (0, 0)))
  | [], o, h, c, K, hb, _, _ => by
    have : h = upd h b (.cells c e (0, 0)) := upd_of (fun _ _ => rfl) hb
    simp only [stC, over]
    rw [← this]
  | v :: l, o, h, c, K, hb, hs, h1 => by
    simp only [List.length_cons] at hs
    have hlt : o < c.size := by omega
    have hc : cel h b o = some c[o] := by simp [cel, hb, hlt]
    have hf : frz h b o = false := by simp [frz, hb]
    have hv : v.oneCell' = true := h1 v (by simp)
    simp only [stC, hc, hf, hv, true_and]
    rw [stC_eq (cset_at hb) (by simp; omega) (fun u hu => h1 u (by simp [hu]))]
    have : upd (cset h b o v) b (.cells (over (c.setIfInBounds o v) (o + 1) l) e (0, 0)) = upd h b (.cells (over (c.setIfInBounds o v) (o + 1) l) e (0, 0)) := by
      funext k
      by_cases hk : k = b
      · subst hk; simp only [upd_same']
      · rw [Den.upd_ne hk, upd_ne hk, cset_other hk]
    rw [this]; rfl
theorem stm_at {n b o : Nat} {e : TypeId} {v : Value} {h : Heap} {c : Array Value} {K : Heap → Prop} (hb : h b = some (.cells c e (0, 0))) (hn : v.cells.size = n) (hs : o + n ≤ c.size) (h1 : v.cells.toList.all (fun u => u.oneCell') = true) :
    stM (some n) (.pointer (some ⟨b, o, none⟩)) v h K = K (upd h b (.cells (over c o v.cells.toList) e (0, 0))) := by
  simp only [stM, hn, true_and]
  exact stC_eq hb (by simp; omega) (List.all_eq_true.1 h1)
theorem stm_upd {n b o : Nat} {e : TypeId} {v : Value} {h : Heap} {c : Array Value} {K : Heap → Prop} (hn : v.cells.size = n) (hs : o + n ≤ c.size) (h1 : v.cells.toList.all (fun u => u.oneCell') = true) :
    stM (some n) (.pointer (some ⟨b, o, none⟩)) v (upd h b (.cells c e (0, 0))) K = K (upd h b (.cells (over c o v.cells.toList) e (0, 0))) := by
  rw [stm_at (upd_same' _ _ _) hn hs h1, upd_upd]
theorem cset_upd {h : Heap} {b b' o : Nat} {v : Value} {o' : Obj} (hb : b ≠ b') : cset (upd h b' o') b o v = upd (cset h b o v) b' o' := by
  funext k
  unfold cset
  by_cases hk : k = b
  · subst hk
    simp only [if_true, upd_ne hb]
  · simp only [hk, if_false]
    by_cases hk' : k = b'
    · subst hk'; simp only [upd_same']
    · simp only [upd_ne hk', if_neg hk]
theorem cel_skip {h : Heap} {b b' o : Nat} {o' : Obj} (hb : b ≠ b') : cel (upd h b' o') b o = cel h b o := by simp only [cel, upd_ne hb]
theorem frz_skip {h : Heap} {b b' o : Nat} {o' : Obj} (hb : b ≠ b') : frz (upd h b' o') b o = frz h b o := by simp only [frz, upd_ne hb]
theorem cels_skip {h : Heap} {b b' : Nat} {o' : Obj} (hb : b ≠ b') : ∀ {n o : Nat}, cels (upd h b' o') b o n = cels h b o n
  | 0, _ => rfl
  | n + 1, o => by simp only [cels, cel_skip hb, cels_skip hb]
theorem stC_skip {b b' : Nat} {o' : Obj} (hb : b ≠ b') : ∀ {l : List Value} {o : Nat} {h : Heap} {K : Heap → Prop}, stC b o l (upd h b' o') K = stC b o l h (fun h => K (upd h b' o'))
  | [], o, h, K => rfl
  | v :: l, o, h, K => by
    simp only [stC, cel_skip hb, frz_skip hb, cset_upd hb]
    cases cel h b o with
    | none => rfl
    | some x => simp only [stC_skip hb]
theorem stm_skip {n b b' o : Nat} {v : Value} {h : Heap} {o' : Obj} {K : Heap → Prop} (hb : b ≠ b') :
    stM (some n) (.pointer (some ⟨b, o, none⟩)) v (upd h b' o') K = stM (some n) (.pointer (some ⟨b, o, none⟩)) v h (fun h => K (upd h b' o')) := by
  simp only [stM, stC_skip hb]
theorem cel_same {h : Heap} {b o : Nat} {c : Array Value} {e : TypeId} {f : Nat × Nat} : cel (upd h b (.cells c e f)) b o = c[o]? := cel_of (upd_same' _ _ _) o
theorem ext_upd {h h' : Heap} {b : Nat} {o : Obj} (hb : h b = none) (e : Ext h h') : Ext h (upd h' b o) := fun k x hk => by
  have : k ≠ b := fun hkb => by subst hkb; rw [hb] at hk; cases hk
  rw [Den.upd_ne this]; exact e k x hk
/-- Blocks of one's own: a local variable. -/
abbrev lc : Tag := [0]
def Gd (g : Tag) : Prop := ∃ k r, g = (k + 1) :: r
theorem Gd.nil {g : Tag} (x : Gd g) : ¬ pre g [] := by obtain ⟨k, r, rfl⟩ := x; simp [pre]
theorem Gd.nlc {g : Tag} (x : Gd g) : ¬ pre g lc := by obtain ⟨k, r, rfl⟩ := x; simp [pre, List.cons_prefix_cons]
theorem Gd.app {g : Tag} (x : Gd g) (s : Tag) : Gd (g ++ s) := by obtain ⟨k, r, rfl⟩ := x; exact ⟨k, r ++ s, rfl⟩
def Off (U : Tag → Prop) (g : Tag) : Prop := ∀ t, pre g t → ¬ U t
theorem Off.app {U : Tag → Prop} {g : Tag} (x : Off U g) (s : Tag) : Off U (g ++ s) := fun t ht => x t (by obtain ⟨r, rfl⟩ := ht; exact ⟨s ++ r, by simp⟩)
theorem Off.at {U : Tag → Prop} {g : Tag} (x : Off U g) (s : Tag) : ¬ U (g ++ s) := x _ ⟨s, rfl⟩
theorem Off.self {U : Tag → Prop} {g : Tag} (x : Off U g) : ¬ U g := x _ ⟨[], by simp⟩
theorem Gd.off {g : Tag} (x : Gd g) : Off (fun t => t = lc) g := fun t ht e => x.nlc (e ▸ ht)
theorem Off.non (g : Tag) : Off non g := fun _ _ h => h
theorem not_pre {g x y : Tag} (h : ¬ x <+: y) : ¬ pre (g ++ x) (g ++ y) := fun p => h ((List.prefix_append_right_inj g).1 p)
theorem off_pre {g x y : Tag} (h : ¬ x <+: y) (h' : ¬ y <+: x) : Off (pre (g ++ x)) (g ++ y) := fun t hy hx => by
  rcases Nat.le_total (g ++ x).length (g ++ y).length with hl | hl
  · exact h ((List.prefix_append_right_inj g).1 (List.prefix_of_prefix_length_le hx hy hl))
  · exact h' ((List.prefix_append_right_inj g).1 (List.prefix_of_prefix_length_le hy hx hl))
theorem off_eq {g x y : Tag} (h' : ¬ y <+: x) : Off (fun t => t = g ++ x) (g ++ y) := fun t hy hx => by
  subst hx
  exact h' ((List.prefix_append_right_inj g).1 hy)
theorem ne_tag {g x y : Tag} (h : x ≠ y) : ¬ (g ++ x = g ++ y) := fun e => h (List.append_cancel_left e)
theorem app_ne {g : Tag} (a : Nat) (s : Tag) : g ++ (a :: s) ≠ [] := by simp
theorem pre_app (g s : Tag) : pre g (g ++ s) := ⟨s, rfl⟩
theorem pre_trans {g s t : Tag} (h : pre (g ++ s) t) : pre g t := by obtain ⟨r, rfl⟩ := h; exact ⟨s ++ r, by simp⟩
/-- A new local variable. -/
theorem Only.loc {U : Tag → Prop} {T : Tags} {h : Heap} {b : Nat} {o : Obj} (w : Wf T h) (n : h b = none) : Only U T h (tset T b lc) (Den.upd h b o) := Only.new lc w n
/-- A block that was not there at first is written. -/
theorem Only.own {U : Tag → Prop} {T T' : Tags} {h h' : Heap} (x : Only U T h T' h') {b : Nat} {o o' : Obj} (n : h b = none) (e : h' b = some o) : Only U T h T' (Den.upd h' b o') := by
  have hne : ∀ k z, h k = some z → k ≠ b := fun k z ez hk => by subst hk; rw [n] at ez; cases ez
  refine ⟨fun k hk => ?_, x.tg, fun k z ek => ?_, fun k z ek u => by rw [Den.upd_ne (hne k z ek)]; exact x.kp k z ek u⟩
  · by_cases hkb : k = b
    · subst hkb; rw [upd_same'] at hk; cases hk
    · rw [Den.upd_ne hkb] at hk; exact x.wf k hk
  · obtain ⟨z', hz⟩ := x.al k z ek
    exact ⟨z', by rw [Den.upd_ne (hne k z ek)]; exact hz⟩
/-- And one that is tagged may be changed. -/
theorem Only.st {U : Tag → Prop} {T T' : Tags} {h h' : Heap} (x : Only U T h T' h') {b : Nat} {o o' : Obj} (e : h' b = some o) (u : U (T' b)) : Only U T h T' (Den.upd h' b o') := x.trans (Only.upd x.wf e u)
theorem Only.fresh {U : Tag → Prop} {T T' : Tags} {h h' : Heap} (x : Only U T h T' h') {b : Nat} (n : h' b = none) : h b = none := by
  cases hb : h b with
  | none => rfl
  | some o => obtain ⟨o', e⟩ := x.al b o hb; rw [n] at e; cases e
/-- What one has built, and nobody changes any more, is frozen. -/
theorem Only.freeze {U : Tag → Prop} {T T' : Tags} {h h' : Heap} (x : Only U T h T' h') (g : Tag) : Only U T h (fun b => if h b = none ∧ T' b = g then [] else T' b) h' := by
  refine ⟨fun b n => ?_, fun b o e => ?_, x.al, x.kp⟩
  · have := x.wf b n
    simp only [this]; split <;> rfl
  · have : ¬ (h b = none ∧ T' b = g) := fun hh => by rw [hh.1] at e; cases e
    simp only [if_neg this]; exact x.tg b o e
theorem over_map1 {G : Nat → Value} {n i : Nat} {x : Value} (hi : i < n) : over ((List.range n).map G).toArray i [x] = ((List.range n).map fun k => if k = i then x else G k).toArray := by
  apply Array.ext_getElem?
  intro k
  rw [over_get _ _ _ (by simp; omega)]
  by_cases hk : k = i
  · subst hk; simp [hi]
  · have : ¬ (i ≤ k ∧ k < i + 1) := by omega
    by_cases hkn : k < n
    · simp [this, hkn, hk]
    · simp [this, hkn]
theorem Kp.freeze (T : Tags) (h h0 : Heap) (g : Tag) : Kp (fun t => t = g) T h (fun b => if h0 b = none ∧ T b = g then [] else T b) h := fun b o e n => by
  have : ¬ (h0 b = none ∧ T b = g) := fun hh => n hh.2
  exact ⟨if_neg this, e⟩
/-- One cell, that is what it holds. -/
def One (v : Value) : Prop := v.oneCell' = true ∧ v.cells = #[v]
theorem Sl.one {α : Type} {sz : Nat} {R : Heap → List Value → α → Prop} {h : Heap} {v : Value} {xs : List α} (x : Sl sz R h v xs) : One v := by
  rcases x with ⟨rfl, a, c, rfl⟩ | ⟨b, o, cap, rfl, _⟩ <;> exact ⟨rfl, rfl⟩
theorem Row.one {sz : Nat} {e : TypeId} {h : Heap} {v : Value} {n : Nat} {xs : List Value} (r : Row sz e h v n xs) : One v := by
  rcases r.2 with ⟨rfl, _⟩ | ⟨g, cap, cur, rfl, _⟩ <;> exact ⟨rfl, rfl⟩
theorem Rw.one {T : Tags} {h : Heap} {g : Tag} {sz : Nat} {e : TypeId} {v : Value} {n : Nat} {xs : List Value} (r : Rw T h g sz e v n xs) : One v := r.1.one
@[simp] theorem one_i (k : IntKind) (n : Int) : (Value.int k n).oneCell' = true := rfl
@[simp] theorem one_s (s : ByteArray) : (Value.string s).oneCell' = true := rfl
@[simp] theorem one_b (b : Bool) : (Value.bool b).oneCell' = true := rfl
@[simp] theorem one_p (a : Option Addr) : (Value.pointer a).oneCell' = true := rfl
@[simp] theorem one_sl (a : Option Addr) (n c : Nat) : (Value.slice a n c).oneCell' = true := rfl
@[simp] theorem one_mp (a : Option Nat) : (Value.map a).oneCell' = true := rfl
@[simp] theorem cells_i (k : IntKind) (n : Int) : (Value.int k n).cells = #[.int k n] := rfl
@[simp] theorem cells_s (s : ByteArray) : (Value.string s).cells = #[.string s] := rfl
@[simp] theorem cells_b (b : Bool) : (Value.bool b).cells = #[.bool b] := rfl
@[simp] theorem cells_p (a : Option Addr) : (Value.pointer a).cells = #[.pointer a] := rfl
@[simp] theorem cells_sl (a : Option Addr) (n c : Nat) : (Value.slice a n c).cells = #[.slice a n c] := rfl
@[simp] theorem cells_mp (a : Option Nat) : (Value.map a).cells = #[.map a] := rfl
/-- A row that lies in blocks of one's own, read where nobody changes it. -/
theorem Row.fz {T : Tags} {sz : Nat} {e : TypeId} {h h' : Heap} {v : Value} {n : Nat} {xs : List Value} (r : Row sz e h' v n xs) (w : Wf T h) (hr : ∀ b, rowOf v = some b → h b = none) : Row sz e (fz T h') v n xs :=
  r.of_at fun b hb => by
    obtain ⟨o, ho⟩ := r.lt b hb
    rw [fz_new w (hr b hb) ho, ho]
end Go.Den
namespace Go.Den
open Go
@[simp] theorem resL_cell {P : Program} {s : Env} {h : Heap} {a t : Nat} {rs : List ResultVar} {L : List Value → Prop} : resL P s h (.cell a t :: rs) L = ov (ldV (tagg P t) (s a) h) (fun v => resL P s h rs (fun l => L (v :: l))) := rfl
theorem kb {K : Value → Heap → Prop} {h : Heap} {a b : Bool} (hk : K (.bool a) h) (e : a = b) : K (.bool b) h := e ▸ hk
theorem kv {K : Value → Heap → Prop} {h : Heap} {a b : Value} (hk : K a h) (e : a = b) : K b h := e ▸ hk
theorem gM_call0 {c : Bool} {A : (Value → Heap → Prop) → Prop} {h : Heap} {K : Value → Heap → Prop} {a : Value} (hA : c = true → ∀ K' : Value → Heap → Prop, K' a h → A K') (hk : K (gdv c a) h) : gM c A h K := by
  cases c
  · exact hk
  · exact hA rfl _ hk
end Go.Den
namespace Go.Den
open Go
theorem cels_at {h : Heap} {b : Nat} {c : Array Value} {e : TypeId} {f : Nat × Nat} (hb : h b = some (.cells c e f)) : ∀ {n o : Nat}, cels h b o n = if n = 0 ∨ o + n ≤ c.size then some (c.extract o (o + n)).toList else none
  | 0, o => by simp [cels]
  | n + 1, o => by
    by_cases hn : o + (n + 1) ≤ c.size
    · rw [if_pos (.inr hn)]
      exact cels_of hb (by simp [List.extract_eq_take_drop]) (by simp; omega)
    · rw [if_neg (by omega)]
      cases hc : cels h b o (n + 1) with
      | none => rfl
      | some l =>
        obtain ⟨h1, h2⟩ := cels_get hc
        have := h2 n (by omega)
        rw [cel_of hb] at this
        have := (Array.getElem?_eq_some_iff.1 this).1
        omega
/-- What is read of a block that is known whole. -/
theorem ld_at {h : Heap} {b : Nat} {c : Array Value} {e : TypeId} {f : Nat × Nat} (hb : h b = some (.cells c e f)) {n o : Nat} :
    ldV (some (some n)) (.pointer (some ⟨b, o, none⟩)) h = if n = 0 ∨ o + n ≤ c.size then some (.agg (c.extract o (o + n))) else none := by
  simp only [ldV, cels_at hb]
  by_cases hn : n = 0 ∨ o + n ≤ c.size
  · simp only [if_pos hn]
  · simp only [if_neg hn]
theorem ld_same {h : Heap} {b : Nat} {c : Array Value} {e : TypeId} {f : Nat × Nat} {n o : Nat} :
    ldV (some (some n)) (.pointer (some ⟨b, o, none⟩)) (upd h b (.cells c e f)) = if n = 0 ∨ o + n ≤ c.size then some (.agg (c.extract o (o + n))) else none := ld_at (upd_same' _ _ _)
theorem ld_skip {h : Heap} {b b' : Nat} {o' : Obj} (hb : b ≠ b') {k : Option (Option Nat)} {o : Nat} : ldV k (.pointer (some ⟨b, o, none⟩)) (upd h b' o') = ldV k (.pointer (some ⟨b, o, none⟩)) h := by
  simp only [ldV, cels_skip hb, cel_skip hb]
end Go.Den
namespace Go.Den
open Go
/-- A new block, tagged. -/
theorem nw_tag {c : Array Value} {e : TypeId} {h : Heap} {K : Value → Heap → Prop} {T : Tags} (w : Wf T h) (t : Tag)
    (hk : ∀ b T' h', h b = none → Only non T h T' h' → T' b = t → h' b = some (.cells c e (0, 0)) → K (.pointer (some ⟨b, 0, none⟩)) h') : nwM (some c) e h K := by
  intro b n
  exact hk b _ _ n (Only.new t w n) (tset_same _ _ _) (upd_same' _ _ _)
theorem Only.up {U V : Tag → Prop} {T T' T'' : Tags} {h h' h'' : Heap} (x : Only V T h T' h') (y : Only U T' h' T'' h'') (m : ∀ t, U t → V t) : Only V T h T'' h'' := x.trans (y.mono m)
theorem non_up {V : Tag → Prop} : ∀ t, non t → V t := fun _ h => h.elim
theorem not_non (t : Tag) : ¬ non t := fun h => h
/-- A block that is known, and not changed. -/
theorem Only.see {U : Tag → Prop} {T T' : Tags} {h h' : Heap} (x : Only U T h T' h') {b : Nat} {o : Obj} {t : Tag} (e : h b = some o ∧ T b = t) (n : ¬ U t) : h' b = some o ∧ T' b = t := x.k.at e.1 e.2 n
end Go.Den
namespace Go.Den
open Go
theorem bs_none {P : Program} {t e : TypeId} {sz : Nat} {z : Array Value} {h : Heap} {K : Value → Heap → Prop} (hb : bsI P t = some (e, sz, z))
    (hk : ∀ v h', Ext h h' → Row sz e h' v 0 [] → rowOf v ≠ none → (∀ g, rowOf v = some g → h g = none) → K v h') : bsM (bsI P t) 0 [] h K := by
  rw [hb]
  simp only [bsM, Instr.fill]
  refine ⟨by omega, fun b hbn => hk _ _ (Ext.upd hbn _) ⟨by simp, .inr ⟨b, 0, _, rfl, upd_same _ _ _, Nat.le_refl _, by unfold maxLen; omega, by simp [zrow_size], by simp⟩⟩ (by simp [rowOf]) (fun g hg => by simp [rowOf] at hg; subst hg; exact hbn)⟩
/-- A copy: append([]T{}, xs...). -/
theorem copy_intro {α : Type} {P : Program} {t ty e : TypeId} {sz bytes : Nat} {enc : α → List Value} {R : Heap → List Value → α → Prop} {x : Value} {ys : List α} {T : Tags} {h h0 : Heap} {v : Value} {K : Value → Heap → Prop}
    (ht : P.underlying t = some (.slice e)) (hi : apC P e = some (sz, bytes, sz)) (hsz : 0 < sz) (w : Wf T h0) (e0 : Ext h0 h) (hv : Row sz e h v 0 []) (hf : ∀ g, rowOf v = some g → h0 g = none)
    (hR : ∀ {h c y}, R h c y → c = enc y) (hR2 : ∀ h y, R h (enc y) y) (hl : ∀ y, (enc y).length = sz) (hx : Sl sz R h x ys) (h1 : ∀ y, ∀ u ∈ enc y, u.oneCell' = true) (h63 : ys.length ≤ maxLen) (hby : ys.length * bytes ≤ 140737488355328)
    (hk : ∀ v' h', Ext h0 h' → Sl sz R (fz T h') v' ys → K v' h') :
    vvM P (Builtin.append_ #[t, t] ty #[v, x]) h K := by
  refine app_sl (ys := ys) (enc := enc) (R := R) ht hi hsz hv hR hx h1 (by omega) (by simpa using hby) fun v' h' hr hkp ha => ?_
  have e1 : Ext h0 h' := e0.keep hkp hf
  have hf' : ∀ b, rowOf v' = some b → h0 b = none := fun b hb => by
    rcases ha with ha | ⟨k, ha, hn⟩
    · exact hf b (by rw [← ha]; exact hb)
    · rw [ha] at hb; simp only [Option.some.injEq] at hb; subst hb; exact fresh_of e0 hn
  refine hk v' h' e1 ?_
  have := hr.fz w hf'
  simp only [Nat.zero_add, List.nil_append] at this
  exact Row.slE hl (hR2 _) this
end Go.Den
namespace Go.Den
open Go
theorem upd_comm {h : Heap} {b c : Nat} {o p : Obj} (n : b ≠ c) : upd (upd h b o) c p = upd (upd h c p) b o := by
  funext k
  by_cases hb : k = b
  · subst hb; rw [upd_ne n, upd_same', upd_same']
  · by_cases hc : k = c
    · subst hc; rw [upd_same', upd_ne hb, upd_same']
    · rw [upd_ne hc, upd_ne hb, upd_ne hb, upd_ne hc]
end Go.Den
namespace Go.Den
open Go
/-- A new block of a heap that has grown is tagged. -/
theorem Only.enew {U : Tag → Prop} {T : Tags} {h h' : Heap} {b : Nat} {o : Obj} (t : Tag) (w : Wf T h) (e : Ext h h') (n : h b = none) (hb : h' b = some o) : Only U T h (tset T b t) h' := by
  have hne : ∀ k x, h k = some x → k ≠ b := fun k x ek hk => by subst hk; rw [n] at ek; cases ek
  refine ⟨fun k hk => ?_, fun k x ek => tset_ne (hne k x ek), fun k x ek => ⟨x, e _ _ ek⟩, fun k x ek _ => e _ _ ek⟩
  have hkb : k ≠ b := fun hh => by subst hh; rw [hb] at hk; cases hk
  rw [tset_ne hkb]
  exact w.ext e k hk
theorem two_l {U V : Tag → Prop} : ∀ t, U t → two U V t := fun _ h => .inl h
theorem two_r {U V : Tag → Prop} : ∀ t, V t → two U V t := fun _ h => .inr h
end Go.Den

/-! DEN, part WA: a range over a function that goes through a list. -/
namespace Go.Den
open Go
set_option linter.unusedVariables false
variable {P : Program} {g : Nat → Bool}
/-- A function that goes through a list: what it is handed is called once for each element, until it says no. -/
def It (P : Program) (gf : FuncId) (lb : Array Value) (xs : List (Array Value)) (hA : Heap) : Prop :=
  ∀ (yv : Value) (I : Nat → Heap → Prop) (S : Heap → Prop) (h : Heap) (K : Value → Heap → Prop), (∀ i h', I i h' → Ext hA h') → (∀ i h' h'', I i h' → Ext h' h'' → I i h'') → I 0 h →
    (∀ i (hi : i < xs.length) h' (K' : Value → Heap → Prop), I i h' → (∀ h'', I (i + 1) h'' → K' (.bool true) h'') → (∀ h'', S h'' → K' (.bool false) h'') →
      nxM P (do let d ← Deferred.ofValue yv xs[i]; invoke d.target d.args) h' K') →
    (∀ v h', I xs.length h' → K v h') → (∀ v h', S h' → K v h') → callM P gf (#[yv] ++ lb) h K
theorem getD_fold {ps : List Tmp} : ∀ {xs : List Value} {tmps : Array Value} {s : Env}, (∀ i, tmps.getD i undef = s i) → (ps.all fun t => Nat.blt t tmps.size) = true →
    (∀ i, ((ps.zip xs).foldl (fun tmps (x : Tmp × Value) => tmps.setIfInBounds x.1 x.2) tmps).getD i undef = puts s (ps.zip xs) i) ∧ ((ps.zip xs).foldl (fun tmps (x : Tmp × Value) => tmps.setIfInBounds x.1 x.2) tmps).size = tmps.size := by
  induction ps with
  | nil => intro xs tmps s hs _; exact ⟨by simpa using hs, by simp⟩
  | cons p ps ih =>
    intro xs tmps s hs hp
    cases xs with
    | nil => exact ⟨by simpa using hs, by simp⟩
    | cons x xs =>
      simp only [List.all_cons, Bool.and_eq_true, Nat.blt_eq] at hp
      simp only [List.zip_cons_cons, List.foldl_cons, puts]
      have h1 : ∀ i, (tmps.setIfInBounds p x).getD i undef = put s p x i := fun i => by
        by_cases hi : i = p
        · subst hi
          simp [put, hp.1]
        · have := hs i
          simp only [Array.getD_eq_getD_getElem?] at this ⊢
          rw [Array.getElem?_setIfInBounds_ne (Ne.symm hi), this]
          have : Nat.beq i p = false := by cases hh : Nat.beq i p with
            | false => rfl
            | true => exact absurd (Nat.eq_of_beq_eq_true hh) hi
          simp [put, this]
      obtain ⟨h2, h3⟩ := ih (xs := xs) h1 (by simpa using hp.2)
      exact ⟨h2, by rw [h3]; simp⟩
theorem keep_upd {h : Heap} {l : Nat} {o : Obj} : Keep (some l) h (upd h l o) := fun b x e n => by rw [upd_ne (fun hb => n (by rw [hb]))]; exact e
theorem round_of_den2 (hg : GoodP P g) (hm : P.follows .mixedOrders = true) {l : Nat} {fn : FuncId} {tmps : Array Value} {as bd : Code} {s : Env} {h : Heap} {K : Value → Heap → Prop}
    (hs : ∀ i, tmps.getD i undef = s i) (hf : (fits tmps.size as && fits tmps.size bd && nrf as && nrf bd) = true) {QA : Post} (hd : den P g as [] s h QA)
    (hQA : ∀ m2 s2 h2, QA .normal m2 s2 h2 → ∃ r : Loop, h2 l = some (.loop r) ∧ r.state = .ready ∧ ∃ QB : Post, den P g bd m2 s2 (upd h2 l (.loop { r with state := .busy })) QB ∧ ∀ e m4 s4 h4, QB e m4 s4 h4 → endM l K e m4 s4 h4)
    (hQN : ∀ e m2 s2 h2, e ≠ .normal → ¬ QA e m2 s2 h2) : roundM P l fn tmps as bd h K := by
  intro w hw
  subst hw
  simp only [Bool.and_eq_true] at hf
  obtain ⟨⟨⟨f1, f2⟩, f3⟩, f4⟩ := hf
  refine roundIn_of_wpIn (F := Fence.wide) trivial (wpIn_mono (den_sound hg hm (n := tmps.size) (r := some l) as [] s _ _ w (.inr f3) f1 ⟨rfl, hs, rfl⟩ hd) ?_)
  intro e a' w' hq
  cases e with
  | normal =>
    obtain ⟨m', s', hR', ho, hq⟩ := hq
    obtain ⟨r, hl, hst, QB, hb, hQB⟩ := hQA _ _ _ hq
    have hl' : w'.heap[l]? = some (.loop r) := hl
    refine ⟨_, run_beginRound hl' hst, ?_⟩
    rw [← abs_putObj hl'] at hb
    have ho2 : Okw w (w'.putObj l (.loop { r with state := .busy })) := ho.trans ⟨rfl, rfl, rfl, by simp [World.putObj]⟩
    refine wpIn_mono (den_sound hg hm (n := tmps.size) (r := some l) bd m' s' _ _ _ (.inr f4) f2 hR' hb) ?_
    intro e2 a2 w2 hq2
    cases e2 with
    | normal =>
      obtain ⟨m2, s2, hR2, ho3, hq2⟩ := hq2
      obtain ⟨r2, hl2, hk⟩ := hQB _ _ _ _ hq2
      have hl2' : w2.heap[l]? = some (.loop r2) := hl2
      refine ⟨_, _, run_endRound none hl2', _, rfl, (ho2.trans ho3).trans ⟨rfl, rfl, rfl, by simp [World.putObj]⟩, ?_⟩
      rw [abs_putObj hl2']; exact hk
    | ret =>
      obtain ⟨m2, s2, hR2, ho3, hq2⟩ := hq2
      obtain ⟨r2, hl2, hk⟩ := hQB _ _ _ _ hq2
      have hl2' : w2.heap[l]? = some (.loop r2) := hl2
      refine ⟨_, _, run_endRound (some .ret) hl2', _, rfl, (ho2.trans ho3).trans ⟨rfl, rfl, rfl, by simp [World.putObj]⟩, ?_⟩
      rw [abs_putObj hl2']; exact hk
    | exit id =>
      obtain ⟨m2, s2, hR2, ho3, hq2⟩ := hq2
      obtain ⟨r2, hl2, hk⟩ := hQB _ _ _ _ hq2
      have hl2' : w2.heap[l]? = some (.loop r2) := hl2
      refine ⟨_, _, run_endRound (some (.exit id)) hl2', _, rfl, (ho2.trans ho3).trans ⟨rfl, rfl, rfl, by simp [World.putObj]⟩, ?_⟩
      rw [abs_putObj hl2']; exact hk
    | goto t => obtain ⟨m2, s2, hR2, ho3, hq2⟩ := hq2; obtain ⟨r2, hl2, hk⟩ := hQB _ _ _ _ hq2; exact hk.elim
    | panic c => exact hq2.elim
    | outgrown => exact hq2.elim
  | goto t => obtain ⟨_, _, _, _, hk⟩ := hq; exact (hQN _ _ _ _ (by simp) hk).elim
  | ret => obtain ⟨_, _, _, _, hk⟩ := hq; exact (hQN _ _ _ _ (by simp) hk).elim
  | exit id => obtain ⟨_, _, _, _, hk⟩ := hq; exact (hQN _ _ _ _ (by simp) hk).elim
  | panic c => exact hq.elim
  | outgrown => exact hq.elim
/-- **A range over such a function.** J: what holds of the heap behind so many rounds; the loop's own record is none of its business. -/
theorem rf_it (hg : GoodP P g) (hm : P.follows .mixedOrders = true) {gv : Value} {gf : FuncId} {lb : Array Value} {xs : List (Array Value)} {hA : Heap} (hgv : gv = .func (.func gf) #[] lb) (hgf : g gf = true) (it : It P gf lb xs hA)
    {ps : Array Tmp} {as bd : Code} {m : List Nat} {s : Env} {h : Heap} {Q : Post} (J : Nat → Heap → Prop) (S : Exit → Heap → Prop)
    (h0 : J 0 h) (hx : ∀ i h', J i h' → Ext hA h') (hk : ∀ l, h l = none → ∀ i h' h'', J i h' → Keep (some l) h' h'' → J i h'') (hkS : ∀ l, h l = none → ∀ e h' h'', S e h' → Keep (some l) h' h'' → S e h'')
    (hsz : ∀ i (hi : i < xs.length), xs[i].size = ps.size)
    (round : ∀ i (hi : i < xs.length) l b h' h2, h l = none → h b = none → J i h' → Keep (some l) h' h2 → (∃ o, h2 l = some o) → (∃ o, h2 b = some o) →
      ∃ A : List Nat → Env → Heap → Prop, (∀ m2 s2 h3 h4, A m2 s2 h3 → Keep (some l) h3 h4 → A m2 s2 h4) ∧
        den P g as [] (puts s (ps.toList.zip xs[i].toList)) h2 (fun e m2 s2 h3 => e = .normal ∧ A m2 s2 h3 ∧ h3 l = h2 l ∧ h3 b = h2 b) ∧
        ∀ m2 s2 h3, A m2 s2 h3 → (∃ o, h3 l = some o) → (∃ o, h3 b = some o) →
          den P g bd m2 s2 h3 (fun e _ _ h4 => h4 l = h3 l ∧ h4 b = h3 b ∧ match e with
            | .normal => J (i + 1) h4
            | .ret => S .ret h4
            | .exit id => S (.exit id) h4
            | _ => False))
    (hend : ∀ b h', h b = none → h' b = some (.deferred (some [])) → J xs.length h' → Q .normal (b :: m) s h')
    (hret : ∀ b h', h b = none → h' b = some (.deferred (some [])) → S .ret h' → Q .ret (b :: m) s h')
    (hexit : ∀ id b h', h b = none → h' b = some (.deferred (some [])) → S (.exit id) h' → Q (.exit id) (b :: m) s h') : rfM P g gv ps as bd m s h Q := by
  refine ⟨gf, lb, hgv, hgf, fun fn tmps b l hs hf hb hl hlb => ?_⟩
  obtain ⟨R, hR⟩ : ∃ R : Loop, R = { state := .ready, pending := none, fn, tmps, params := ps, assign := as, body := bd, defers := b } := ⟨_, rfl⟩
  rw [← hR]
  have hfb : fz (fun _ => []) h = h := fz_nil h
  let I : Nat → Heap → Prop := fun i h' => J i h' ∧ h' b = some (.deferred (some [])) ∧ h' l = some (.loop R)
  let St : Heap → Prop := fun h' => h' b = some (.deferred (some [])) ∧ ((∃ r : Loop, h' l = some (.loop r) ∧ r.state = .done ∧ r.pending = some .ret ∧ S .ret h') ∨ (∃ id, ∃ r : Loop, h' l = some (.loop r) ∧ r.state = .done ∧ r.pending = some (.exit id) ∧ S (.exit id) h'))
  have e1 : Ext h (upd (upd h b (.deferred (some []))) l (.loop R)) := ext_upd hl (Ext.upd hb _)
  have start : I 0 (upd (upd h b (.deferred (some []))) l (.loop R)) := by
    refine ⟨hk l hl 0 h _ h0 fun k o e _ => e1 k o e, ?_, upd_same' _ _ _⟩
    rw [upd_ne (Ne.symm hlb), upd_same']
  refine it (.func (.yield l) #[] #[]) I St _ _ (fun i h' hi => hx i h' hi.1) (fun i h' h'' hi e => ⟨hk l hl i h' h'' hi.1 fun k o ek _ => e k o ek, e _ _ hi.2.1, e _ _ hi.2.2⟩) start ?_ ?_ ?_
  · intro i hi h' K' hI hK1 hK2
    obtain ⟨hJ, hb', hl'⟩ := hI
    have hps : ps = R.params := by rw [hR]
    refine nx_yield hl' (by rw [hsz i hi, hps]) ?_
    simp only [Bool.and_eq_true] at hf
    obtain ⟨⟨⟨⟨f1, f2⟩, f3⟩, f4⟩, f5⟩ := hf
    have hR1 : R.params = ps := hps.symm
    have hR2 : R.tmps = tmps := by rw [hR]
    have hR3 : R.assign = as := by rw [hR]
    have hR4 : R.body = bd := by rw [hR]
    have hR5 : R.state = .ready := by rw [hR]
    rw [hR1, hR2, hR3, hR4]
    have hfold : (ps.zip xs[i]).foldl (fun tmps (t, a) => tmps.setIfInBounds t a) tmps = (ps.toList.zip xs[i].toList).foldl (fun tmps (x : Tmp × Value) => tmps.setIfInBounds x.1 x.2) tmps := by
      rw [← Array.foldl_toList, Array.toList_zip]
    rw [hfold]
    obtain ⟨g1, g2⟩ := getD_fold (ps := ps.toList) (xs := xs[i].toList) hs f1
    obtain ⟨A, a1, a2, a3⟩ := round i hi l b h' h' hl hb hJ (fun k o e _ => e) ⟨_, hl'⟩ ⟨_, hb'⟩
    refine round_of_den2 hg hm g1 (by rw [g2]; simp [f2, f3, f4, f5]) a2 (fun m2 s2 h2 hq => ?_) (fun e m2 s2 h2 he hq => he hq.1)
    obtain ⟨_, hA2, hl2, hb2⟩ := hq
    have hl2' : h2 l = some (.loop R) := by rw [hl2]; exact hl'
    have hb2' : h2 b = some (.deferred (some [])) := by rw [hb2]; exact hb'
    refine ⟨R, hl2', hR5, _, a3 m2 s2 _ (a1 _ _ _ _ hA2 keep_upd) ⟨_, upd_same' _ _ _⟩ ⟨_, by rw [upd_ne (Ne.symm hlb)]; exact hb2'⟩, fun e m4 s4 h4 hq => ?_⟩
    obtain ⟨hl4, hb4, hq⟩ := hq
    rw [upd_same'] at hl4
    rw [upd_ne (Ne.symm hlb)] at hb4
    have hb4' : h4 b = some (.deferred (some [])) := by rw [hb4]; exact hb2'
    refine ⟨_, hl4, ?_⟩
    cases e with
    | normal =>
      refine hK1 _ ⟨hk l hl _ _ _ hq keep_upd, by rw [upd_ne (Ne.symm hlb)]; exact hb4', ?_⟩
      rw [upd_same', hR]
    | ret =>
      refine hK2 _ ⟨by rw [upd_ne (Ne.symm hlb)]; exact hb4', .inl ⟨_, upd_same' _ _ _, rfl, rfl, hkS l hl _ _ _ hq keep_upd⟩⟩
    | exit id =>
      refine hK2 _ ⟨by rw [upd_ne (Ne.symm hlb)]; exact hb4', .inr ⟨id, _, upd_same' _ _ _, rfl, rfl, hkS l hl _ _ _ hq keep_upd⟩⟩
    | _ => exact hq.elim
  · intro v h' hI
    refine ⟨R, hI.2.2, by rw [hR]; simp, ?_⟩
    have : R.pending = none := by rw [hR]
    rw [this]
    exact hend b _ hb (by rw [upd_ne (Ne.symm hlb)]; exact hI.2.1) (hk l hl _ _ _ hI.1 keep_upd)
  · intro v h' hS
    obtain ⟨hb', hS⟩ := hS
    rcases hS with ⟨r, hl', hst, hp, hs'⟩ | ⟨id, r, hl', hst, hp, hs'⟩
    · refine ⟨r, hl', by rw [hst]; simp, ?_⟩
      rw [hp]
      exact hret b _ hb (by rw [upd_ne (Ne.symm hlb)]; exact hb') (hkS l hl _ _ _ hs' keep_upd)
    · refine ⟨r, hl', by rw [hst]; simp, ?_⟩
      rw [hp]
      exact hexit id b _ hb (by rw [upd_ne (Ne.symm hlb)]; exact hb') (hkS l hl _ _ _ hs' keep_upd)
@[simp] theorem retM_1 {P : Program} {rs : List ResultVar} {R : Value → Heap → Prop} {b : Nat} {s : Env} {h : Heap} : retM P rs R .ret [b] s h = (h b = some (.deferred (some [])) ∧ resL P s (upd h b (.deferred none)) rs (fun l => R (tupV l) (upd h b (.deferred none)))) := rfl
end Go.Den
