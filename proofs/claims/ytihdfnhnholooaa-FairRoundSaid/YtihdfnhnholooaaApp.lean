/- The word of append onto a slice that begins where its block does. No condition beyond the hypotheses that each theorem states. -/
import Derived.Test.YtihdfnhnholooaaDen
import Derived.Maps.AppendAt
set_option linter.unusedSimpArgs false
set_option linter.unusedVariables false
/-! DEN, part L: append onto a slice at the head of its block. -/
namespace Go.Den
open Go

/-- A slice that begins where its block does: its elements' cells. -/
def Row (sz : Nat) (e : TypeId) (h : Heap) (v : Value) (n : Nat) (xs : List Value) : Prop :=
  xs.length = n * sz ∧ ((v = .slice none 0 0 ∧ n = 0) ∨
    ∃ g cap cur, v = .slice (some ⟨g, 0, none⟩) n cap ∧ h g = some (.cells cur e (0, 0)) ∧ n ≤ cap ∧ cap ≤ maxLen ∧ cur.size = cap * sz ∧ cur.toList.take (n * sz) = xs)
def rowOf : Value → Option Nat
  | .slice (some a) _ _ => some a.block
  | _ => none
theorem rowOf_own (v : Value) : rowOf v = v.ownBlock := by cases v <;> first | rfl | (rename_i a _ _; cases a <;> rfl)
theorem Row.owns {sz : Nat} {e : TypeId} {w : World} {v : Value} {n : Nat} {xs : List Value} (r : Row sz e (abs w) v n xs) : w.ownsRow 0 e sz v n xs := by
  refine ⟨r.1, ?_⟩
  rcases r.2 with h | ⟨g, cap, cur, h1, h2, h3⟩
  · exact .inl h
  · exact .inr ⟨g, cap, cur, h1, Nat.zero_le _, h2, h3⟩
theorem Row.of {sz : Nat} {e : TypeId} {w : World} {v : Value} {n : Nat} {xs : List Value} (r : w.ownsRow 0 e sz v n xs) : Row sz e (abs w) v n xs := by
  refine ⟨r.1, ?_⟩
  rcases r.2 with h | ⟨g, cap, cur, h1, _, h2, h3⟩
  · exact .inl h
  · exact .inr ⟨g, cap, cur, h1, h2, h3⟩
/-- All blocks but one stay as they were. -/
def Keep (r : Option Nat) (h h' : Heap) : Prop := ∀ b o, h b = some o → some b ≠ r → h' b = some o
theorem Keep.of_ext {r : Option Nat} {h h' : Heap} (x : Ext h h') : Keep r h h' := fun b o e _ => x b o e
theorem Keep.trans {r : Option Nat} {a b c : Heap} (x : Keep r a b) (y : Keep r b c) : Keep r a c := fun k o e n => y k o (x k o e n) n
theorem Row.keep {sz : Nat} {e : TypeId} {h h' : Heap} {v : Value} {n : Nat} {xs : List Value} (r : Row sz e h v n xs) {q : Option Nat} (k : Keep q h h') (hq : rowOf v ≠ q ∨ rowOf v = none) : Row sz e h' v n xs := by
  refine ⟨r.1, ?_⟩
  rcases r.2 with h1 | ⟨g, cap, cur, rfl, h2, h3⟩
  · exact .inl h1
  · rcases hq with hq | hq
    · exact .inr ⟨g, cap, cur, rfl, k _ _ h2 (by simpa [rowOf] using hq), h3⟩
    · simp [rowOf] at hq
theorem Row.ext {sz : Nat} {e : TypeId} {h h' : Heap} {v : Value} {n : Nat} {xs : List Value} (r : Row sz e h v n xs) (k : Ext h h') : Row sz e h' v n xs := by
  refine ⟨r.1, ?_⟩
  rcases r.2 with h1 | ⟨g, cap, cur, rfl, h2, h3⟩
  · exact .inl h1
  · exact .inr ⟨g, cap, cur, rfl, k _ _ h2, h3⟩
theorem Row.lt {sz : Nat} {e : TypeId} {h : Heap} {v : Value} {n : Nat} {xs : List Value} (r : Row sz e h v n xs) : ∀ b, rowOf v = some b → ∃ o, h b = some o := by
  intro b hb
  rcases r.2 with ⟨rfl, _⟩ | ⟨g, cap, cur, rfl, h2, h3⟩
  · simp [rowOf] at hb
  · simp [rowOf] at hb; subst hb; exact ⟨_, h2⟩
/-- What append asks of the elements' type: cells, bytes. -/
def apC (P : Program) (e : TypeId) : Option (Nat × Nat × Nat) := match P.info? e with
  | some i => match i.zero with
    | some z => some (i.size, i.bytes, z.cells.size)
    | none => none
  | none => none
theorem cels_read {w : World} {b : Nat} : ∀ {n o : Nat} {l : List Value}, cels (abs w) b o n = some l → ∀ j u, l[j]? = some u → w.cell? ((⟨b, o, none⟩ : Addr).add j) = some u := by
  intro n o l h j u hu
  obtain ⟨h1, h2⟩ := cels_get h
  have hj : j < l.length := (List.getElem?_eq_some_iff.1 hu).1
  have := h2 j hj
  rw [cel_abs] at this
  have e : (⟨b, o, none⟩ : Addr).add j = ⟨b, o + j, none⟩ := by simp [Addr.add]
  rw [e, this]
  exact (List.getElem?_eq_some_iff.1 hu).2 ▸ rfl
theorem app_intro {P : Program} {t ty e : TypeId} {sz bytes : Nat} {v : Value} {n : Nat} {xs : List Value} {ab ao m c : Nat} {news : List Value} {h : Heap} {K : Value → Heap → Prop}
    (ht : P.underlying t = some (.slice e)) (hi : apC P e = some (sz, bytes, sz)) (hsz : 0 < sz) (hv : Row sz e h v n xs) (hn : cels h ab ao (m * sz) = some news) (h1 : ∀ u ∈ news, u.oneCell' = true)
    (h63 : n + m ≤ maxLen) (hby : (n + m) * bytes ≤ 140737488355328)
    (hk : ∀ v' h', Row sz e h' v' (n + m) (xs ++ news) → Keep (rowOf v) h h' → (rowOf v' = rowOf v ∨ ∃ b, rowOf v' = some b ∧ h b = none) → K v' h') :
    vvM P (Builtin.append_ #[t, t] ty #[v, .slice (some ⟨ab, ao, none⟩) m c]) h K := by
  intro w hw
  subst hw
  unfold apC at hi
  cases hi1 : P.info? e with
  | none => simp [hi1] at hi
  | some i =>
    cases hz : i.zero with
    | none => simp [hi1, hz] at hi
    | some z =>
      simp only [hi1, hz, Option.some.injEq, Prod.mk.injEq] at hi
      obtain ⟨v', w', hr, ho, hg, _, ha⟩ := run_append_own_at (P := P) w 0 t ty e i z sz bytes ht hi1 hz hi.1 hi.2.1 hi.2.2 hsz v n xs hv.owns ⟨ab, ao, none⟩ m c news (cels_get hn).1 (cels_read hn) h1 h63 hby (Nat.zero_le _)
      refine ⟨v', w', hr, ⟨hg.os, hg.tape, hg.output, hg.size⟩, hk v' _ (Row.of ho) (fun b o hb hne => ?_) ?_⟩
      · rw [rowOf_own] at hne
        have hlt : b < w.heap.size := (Array.getElem?_eq_some_iff.1 hb).1
        exact (hg.block b hlt hne).trans hb
      · rw [rowOf_own, rowOf_own]
        rcases ha with ha | ha
        · exact .inl ha
        · exact .inr ⟨_, ha, abs_fresh w⟩
theorem fold_over : ∀ (l : List Value) (off k : Nat) (cs : Array Value), (l.zipIdx k).foldl (fun cs x => cs.setIfInBounds (off + x.2) x.1) cs = over cs (off + k) l
  | [], _, _, _ => rfl
  | v :: l, off, k, cs => by
    simp only [List.zipIdx_cons, List.foldl_cons, over]
    rw [fold_over l off (k + 1)]; congr 1
theorem zrow_size (z : Array Value) (n : Nat) : (zrow z n).size = n := by simp [zrow]
/-- One part. -/
theorem fill_one {sz : Nat} {z : Array Value} {x : Value} (hx : x.cells.size = sz) : Instr.fill (fun i => some (i * sz, sz)) (zrow z (1 * sz)) [(0, x)] = some x.cells := by
  simp only [Instr.fill, hx, zrow_size]
  simp only [ne_eq, not_true, decide_false, Nat.zero_mul, Nat.zero_add, Nat.one_mul, Bool.false_or]
  have h : ¬ (sz > sz) := by omega
  simp only [h, decide_false, if_false, Bool.false_eq_true, Option.some.injEq]
  rw [← Array.foldl_toList, Array.toList_zipIdx]
  have := fold_over x.cells.toList 0 0 (zrow z sz)
  simp only [Nat.zero_add] at this
  rw [this, over_all _ _ (by rw [zrow_size]; simpa using hx)]
/-- append(s, x). -/
theorem app_one {P : Program} {t ty e : TypeId} {sz bytes : Nat} {z : Array Value} {v x : Value} {n : Nat} {xs : List Value} {h : Heap} {K : Value → Value → Heap → Prop}
    (hb : bsI P t = some (e, sz, z)) (ht : P.underlying t = some (.slice e)) (hi : apC P e = some (sz, bytes, sz)) (hsz : 0 < sz) (hx : x.cells.size = sz) (h1 : ∀ u ∈ x.cells.toList, u.oneCell' = true)
    (hv : Row sz e h v n xs) (h63 : n + 1 ≤ maxLen) (hby : (n + 1) * bytes ≤ 140737488355328) (hs : sz ≤ 16777216)
    (hk : ∀ a v' h', Row sz e h' v' (n + 1) (xs ++ x.cells.toList) → Keep (rowOf v) h h' → (rowOf v' = rowOf v ∨ ∃ b, rowOf v' = some b ∧ h b = none) → K a v' h') :
    bsM (bsI P t) 1 [(0, x)] h fun a h' => vvM P (Builtin.append_ #[t, t] ty #[v, a]) h' (K a) := by
  rw [hb]
  simp only [bsM]
  rw [fill_one hx]
  refine ⟨by omega, fun b hbn => ?_⟩
  have he := Ext.upd hbn (.cells x.cells e (0, 0))
  have hc : cels (upd h b (.cells x.cells e (0, 0))) b 0 (1 * sz) = some x.cells.toList := by
    have := cels_upd (h := h) (b := b) (c := x.cells.toList) (e := e) (f := (0, 0)) (n := 1 * sz) (o := 0) (by simpa using hx.symm)
    simpa using this
  refine app_intro ht hi hsz (hv.ext he) hc h1 h63 hby fun v' h' hr hkp ha => hk _ v' h' hr ((Keep.of_ext he).trans hkp) ?_
  rcases ha with ha | ⟨k, ha, hn⟩
  · exact .inl ha
  · refine .inr ⟨k, ha, ?_⟩
    cases hh : h k with
    | none => rfl
    | some o => rw [he _ _ hh] at hn; cases hn
theorem Ext.keep {h0 h h' : Heap} {r : Option Nat} (x : Ext h0 h) (k : Keep r h h') (hr : ∀ b, r = some b → h0 b = none) : Ext h0 h' := fun b o e =>
  k b o (x b o e) (fun h => by rw [hr b h.symm] at e; cases e)
theorem cels_of {h : Heap} {b : Nat} {c : Array Value} {e : TypeId} {f : Nat × Nat} (hb : h b = some (.cells c e f)) : ∀ {n o : Nat} {l : List Value}, (c.toList.drop o).take n = l → l.length = n → cels h b o n = some l
  | 0, o, l, h1, h2 => by simp at h1; subst h1; rfl
  | n + 1, o, [], h1, h2 => by simp at h2
  | n + 1, o, x :: l, h1, h2 => by
    have ho : o < c.toList.length := by
      have : ((c.toList.drop o).take (n + 1)).length = n + 1 := by rw [h1]; exact h2
      simp only [List.length_take, List.length_drop] at this
      omega
    rw [List.drop_eq_getElem_cons ho, List.take_succ_cons, List.cons.injEq] at h1
    have h3 : cel h b o = some x := by simp [cel, hb, ← h1.1]
    have h4 := cels_of hb (n := n) (o := o + 1) h1.2 (by simpa using h2)
    simp only [cels, h3, h4]
theorem flat_at {α : Type} (enc : α → List Value) {sz : Nat} (henc : ∀ x, (enc x).length = sz) : ∀ (xs : List α) (i : Nat) (hi : i < xs.length), ((xs.flatMap enc).drop (i * sz)).take sz = enc xs[i]
  | x :: xs, 0, _ => by simp [List.take_append, henc]
  | x :: xs, i + 1, hi => by
    simp only [List.flatMap_cons, List.getElem_cons_succ]
    rw [show (i + 1) * sz = (enc x).length + i * sz by rw [henc, Nat.add_mul]; omega, List.drop_append]
    rw [List.drop_eq_nil_of_le (by omega), show (enc x).length + i * sz - (enc x).length = i * sz by omega, List.nil_append]
    exact flat_at enc henc xs i (by simpa using hi)
theorem Row.sl {α : Type} {enc : α → List Value} {sz : Nat} {R : Heap → List Value → α → Prop} {e : TypeId} {h : Heap} {v : Value} {xs : List α} (henc : ∀ x, (enc x).length = sz) (hR : ∀ x, R h (enc x) x)
    (r : Row sz e h v xs.length (xs.flatMap enc)) : Sl sz R h v xs := by
  rcases r.2 with ⟨rfl, h2⟩ | ⟨g, cap, cur, rfl, hb, h3, h4, h5, h6⟩
  · exact .inl ⟨List.eq_nil_of_length_eq_zero h2, _, _, rfl⟩
  · refine .inr ⟨g, 0, cap, rfl, h3, h4, fun i hi => ⟨enc xs[i], cels_of hb ?_ (henc _), hR _⟩⟩
    rw [Nat.zero_add, ← flat_at enc henc xs i hi, ← h6, List.drop_take, List.take_take]
    congr 1
    have : (i + 1) * sz ≤ xs.length * sz := Nat.mul_le_mul_right _ hi
    rw [Nat.add_mul] at this; omega
end Go.Den
