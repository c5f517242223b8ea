/- Pieces of memory within one set of blocks, each with blocks of its own. No condition. -/
import Derived.Test.YtblijgdmfohfcaaHeap
import Derived.Test.YtblijgdmfohfcaaApp
namespace Go.Proofs.Ytblijgdmfohfcaa
open Go Go.RowKit
set_option linter.unusedVariables false
set_option linter.unusedSimpArgs false
/-- These pieces, each with blocks of its own, all among S. -/
def Many (w : World) (l : List Piece) (S : Nat → Prop) : Prop :=
  ∃ σ : Nat → Nat → Prop, (∀ (i : Nat) (P : Piece), l[i]? = some P → P.holds w (σ i)) ∧ (∀ i k, σ i k → S k ∧ k < w.heap.size) ∧ (∀ i j k, σ i k → σ j k → i = j)
theorem Many.keep {w w' : World} {l : List Piece} {S F : Nat → Prop} (h : Many w l S) (hf : Fr F w w') (hn : ∀ k, S k → ¬ F k) : Many w' l S := by
  obtain ⟨σ, h1, h2, h3⟩ := h
  exact ⟨σ, fun i P hi => P.keep (h1 i P hi) hf (fun k hk => hn k (h2 i k hk).1) (fun k hk => (h2 i k hk).2), fun i k hk => ⟨(h2 i k hk).1, Nat.lt_of_lt_of_le (h2 i k hk).2 hf.size⟩, h3⟩
theorem Many.more {w : World} {l : List Piece} {S S' : Nat → Prop} (h : Many w l S) (hs : ∀ k, S k → S' k) : Many w l S' := by
  obtain ⟨σ, h1, h2, h3⟩ := h
  exact ⟨σ, h1, fun i k hk => ⟨hs k (h2 i k hk).1, (h2 i k hk).2⟩, h3⟩
theorem Many.nil (w : World) (S : Nat → Prop) : Many w [] S := ⟨fun _ _ => False, fun i P h => by simp at h, fun _ _ h => h.elim, fun _ _ _ h => h.elim⟩
theorem Many.push {w w' : World} {l : List Piece} {S S' : Nat → Prop} (h : Many w l S) (hf : Fr nob w w') {p : Piece} {T : Nat → Prop} (hp : p.holds w' T) (hs : ∀ k, T k → w.heap.size ≤ k ∧ k < w'.heap.size) (h1' : ∀ k, S k → S' k) (h2' : ∀ k, T k → S' k) : Many w' (l ++ [p]) S' := by
  obtain ⟨σ, h1, h2, h3⟩ := h
  refine ⟨fun i k => if i < l.length then σ i k else if i = l.length then T k else False, fun i P hi => ?_, fun i k hk => ?_, fun i j k hi hj => ?_⟩
  · by_cases hl : i < l.length
    · simp only [hl, if_true]
      rw [List.getElem?_append_left hl] at hi
      exact P.keep (h1 i P hi) hf (fun _ _ x => x) (fun k hk => (h2 i k hk).2)
    · have : i = l.length := by
        have := (List.getElem?_eq_some_iff.1 hi).1
        simp at this; omega
      subst this
      simp at hi
      subst hi
      simpa using hp
  · simp only at hk
    split at hk
    · exact ⟨h1' k (h2 i k hk).1, Nat.lt_of_lt_of_le (h2 i k hk).2 hf.size⟩
    · split at hk
      · exact ⟨h2' k hk, (hs k hk).2⟩
      · exact hk.elim
  · simp only at hi hj
    split at hi <;> split at hj
    · exact h3 i j k hi hj
    · split at hj
      · have := (h2 i k hi).2; have := (hs k hj).1; omega
      · exact hj.elim
    · split at hi
      · have := (h2 j k hj).2; have := (hs k hi).1; omega
      · exact hi.elim
    · split at hi
      · split at hj
        · omega
        · exact hj.elim
      · exact hi.elim
/-- A piece is taken; what becomes of it is given back. -/
theorem Many.take {w : World} {l : List Piece} {S : Nat → Prop} (h : Many w l S) (i : Nat) {p : Piece} (hi : l[i]? = some p) : ∃ T : Nat → Prop, p.holds w T ∧ (∀ k, T k → S k ∧ k < w.heap.size) ∧
    ∀ {w' : World} {p' : Piece} {T' S' : Nat → Prop}, Fr T w w' → p'.holds w' T' → (∀ k, T' k → T k ∨ (w.heap.size ≤ k ∧ k < w'.heap.size)) → (∀ k, S k → S' k) → (∀ k, T' k → S' k) → Many w' (l.set i p') S' := by
  obtain ⟨σ, h1, h2, h3⟩ := h
  refine ⟨σ i, h1 i p hi, h2 i, fun {w' p' T' S'} hf hp hs hS hT => ?_⟩
  have hil := (List.getElem?_eq_some_iff.1 hi).1
  refine ⟨fun j k => if j = i then T' k else σ j k, fun j P hj => ?_, fun j k hk => ?_, fun j j' k hj hj' => ?_⟩
  · by_cases hji : j = i
    · subst hji
      rw [List.getElem?_set_self hil] at hj
      simp at hj
      subst hj
      simpa using hp
    · rw [List.getElem?_set_ne (fun x => hji x.symm)] at hj
      simp only [hji, if_false]
      exact P.keep (h1 j P hj) hf (fun k hk hx => hji (h3 j i k hk hx)) (fun k hk => (h2 j k hk).2)
  · simp only at hk
    split at hk
    · refine ⟨hT k hk, ?_⟩
      rcases hs k hk with hk | hk
      · exact Nat.lt_of_lt_of_le (h2 i k hk).2 hf.size
      · exact hk.2
    · exact ⟨hS k (h2 j k hk).1, Nat.lt_of_lt_of_le (h2 j k hk).2 hf.size⟩
  · simp only at hj hj'
    split at hj <;> split at hj'
    · omega
    · rcases hs k hj with hk | hk
      · have := h3 i j' k hk hj'; omega
      · have := (h2 j' k hj').2; omega
    · rcases hs k hj' with hk | hk
      · have := h3 i j k hk hj; omega
      · have := (h2 j k hj).2; omega
    · exact h3 j j' k hj hj'
theorem Many.get {w : World} {l : List Piece} {S : Nat → Prop} (h : Many w l S) (i : Nat) {p : Piece} (hi : l[i]? = some p) : ∃ T : Nat → Prop, p.holds w T ∧ (∀ k, T k → S k ∧ k < w.heap.size) := by
  obtain ⟨T, h1, h2, _⟩ := h.take i hi
  exact ⟨T, h1, h2⟩
/-- Two different pieces have no block in common. -/
theorem Many.two {w : World} {l : List Piece} {S : Nat → Prop} (h : Many w l S) (i j : Nat) (hij : i ≠ j) {p q : Piece} (hi : l[i]? = some p) (hj : l[j]? = some q) : ∃ T U : Nat → Prop, p.holds w T ∧ q.holds w U ∧ (∀ k, T k → ¬ U k) ∧ (∀ k, T k → S k ∧ k < w.heap.size) ∧ (∀ k, U k → S k ∧ k < w.heap.size) := by
  obtain ⟨σ, h1, h2, h3⟩ := h
  exact ⟨σ i, σ j, h1 i p hi, h1 j q hj, fun k hk hx => hij (h3 i j k hk hx), h2 i, h2 j⟩
/-- All together are a piece. -/
def manyP (l : List Piece) : Piece := ⟨fun w S => Many w l S, fun h hf hn _ => h.keep hf hn⟩
/-- A slice that one owns. -/
def rowP (t : TypeId) (sz : Nat) (v : Value) (n : Nat) (us : List Value) : Piece where
  holds w S := QRow w t sz v n us ∧ ∀ g, v.ownBlock = some g → S g ∧ ∃ c, Blk w g t c
  keep h hf hn _ := ⟨h.1.fr hf (fun g hg _ => hn g (h.2 g hg).1), fun g hg => ⟨(h.2 g hg).1, by obtain ⟨_, c, hc⟩ := h.2 g hg; exact ⟨c, hc.fr hf (hn g (h.2 g hg).1)⟩⟩⟩
/-- A slice that can be read. -/
def rdP (sz : Nat) (v : Value) (n : Nat) (us : List Value) : Piece where
  holds w S := RdV w v n sz us ∧ ∀ g, v.ownBlock = some g → S g
  keep h hf hn _ := ⟨h.1.fr hf (fun g hg _ => hn g (h.2 g hg)), h.2⟩
/-- One cell of a row is another one. -/
theorem QRow.put {w : World} {t : TypeId} {sz g off n cap : Nat} {us : List Value} (h : QRow w t sz (.slice (some ⟨g, off, none⟩) n cap) n us) (j : Nat) (hj : j < n * sz) (x : Value) :
    QRow (w.setCell ⟨g, off + j, none⟩ x) t sz (.slice (some ⟨g, off, none⟩) n cap) n (us.set j x) := by
  obtain ⟨h0, a, c, hv, h1, h2, h3⟩ := h
  simp only [Value.slice.injEq] at hv
  obtain ⟨rfl, _, rfl⟩ := hv
  rcases h3 with ⟨rfl, _⟩ | ⟨g', off', cur, hg, hb, h4, h5⟩
  · have : n = 0 := by omega
    subst this; simp at hj
  · simp only [Option.some.injEq, Addr.mk.injEq] at hg
    obtain ⟨rfl, rfl, _⟩ := hg
    refine ⟨by rw [List.length_set]; exact h0, _, cap, rfl, h1, h2, .inr ⟨g, off, _, rfl, hb.set _ x, by simpa using h4, fun i u hu => ?_⟩⟩
    have hil : i < us.length := by
      have := (List.getElem?_eq_some_iff.1 hu).1
      simpa using this
    by_cases hij : j = i
    · subst hij
      rw [List.getElem?_set_self hil] at hu
      have hlt : off + j < cur.size := by
        have := h5 j _ (List.getElem?_eq_getElem hil)
        exact (Array.getElem?_eq_some_iff.1 this).1
      rw [Array.getElem?_setIfInBounds_self_of_lt hlt]
      exact hu
    · rw [List.getElem?_set_ne hij] at hu
      rw [Array.getElem?_setIfInBounds_ne (by omega)]
      exact h5 i u hu
/-- Nothing. -/
def nilP : Piece := ⟨fun _ _ => True, fun _ _ _ _ => trivial⟩
/-- The last pieces, as one. -/
theorem Heap.pack {w0 w : World} {l m : List Piece} (h : Heap w0 w (l ++ m)) : Heap w0 w (l ++ [manyP m]) := by
  obtain ⟨f, σ, h1, h2, h3⟩ := h
  refine ⟨f, fun i k => if i < l.length then σ i k else if i = l.length then ∃ j, l.length ≤ j ∧ σ j k else False, fun i P hi => ?_, fun i k hk => ?_, fun i j k hi hj => ?_⟩
  · by_cases hl : i < l.length
    · simp only [hl, if_true]
      rw [List.getElem?_append_left hl] at hi
      exact h1 i P (by rw [List.getElem?_append_left hl]; exact hi)
    · have : i = l.length := by
        have := (List.getElem?_eq_some_iff.1 hi).1
        simp at this; omega
      subst this
      simp at hi
      subst hi
      simp only [Nat.lt_irrefl, if_false, if_true]
      refine ⟨fun j => σ (l.length + j), fun j P hj => h1 _ P (by rw [List.getElem?_append_right (by omega)]; simpa using hj), fun j k hk => ⟨⟨_, Nat.le_add_right _ _, hk⟩, (h2 _ k hk).2⟩, fun i j k hi hj => ?_⟩
      have := h3 _ _ k hi hj
      omega
  · simp only at hk
    split at hk
    · exact h2 i k hk
    · split at hk
      · obtain ⟨j, _, hj⟩ := hk; exact h2 j k hj
      · exact hk.elim
  · simp only at hi hj
    split at hi <;> split at hj
    · exact h3 i j k hi hj
    · split at hj
      · obtain ⟨j', hj1, hj2⟩ := hj
        have := h3 i j' k hi hj2; omega
      · exact hj.elim
    · split at hi
      · obtain ⟨i', hi1, hi2⟩ := hi
        have := h3 i' j k hi2 hj; omega
      · exact hi.elim
    · split at hi
      · split at hj
        · omega
        · exact hj.elim
      · exact hi.elim
/-- What reads, instead of what owns. -/
theorem rowP_rd {w : World} {S : Nat → Prop} {t : TypeId} {sz : Nat} {v : Value} {n : Nat} {us : List Value} (h : (rowP t sz v n us).holds w S) : (rdP sz v n us).holds w S := ⟨h.1.rdv, fun g hg => (h.2 g hg).1⟩
/-- A cloned slice, as a new piece. -/
theorem Heap.pushRow {w0 w w' : World} {l : List Piece} (h : Heap w0 w l) {t : TypeId} {sz n : Nat} {v : Value} {us : List Value} (hf : Fr nob w w') (hq : QRow w' t sz v n us) (hb : ∀ g, v.ownBlock = some g → w.heap.size ≤ g ∧ g < w'.heap.size ∧ ∃ c, Blk w' g t c) : Heap w0 w' (l ++ [rowP t sz v n us]) :=
  h.push (S := fun k => v.ownBlock = some k) hf ⟨hq, fun g hg => ⟨hg, (hb g hg).2.2⟩⟩ (fun k hk => ⟨(hb k hk).1, (hb k hk).2.1⟩)
theorem Heap.row {w0 w : World} {l : List Piece} (h : Heap w0 w l) (i : Nat) {t : TypeId} {sz n : Nat} {v : Value} {us : List Value} (hi : l[i]? = some (rowP t sz v n us)) : QRow w t sz v n us := by
  obtain ⟨S, h1, _⟩ := h.get i hi
  exact h1.1
/-- The pieces in another order, or some of them. -/
theorem Heap.idx {w0 w : World} {l l' : List Piece} (h : Heap w0 w l) (f : Nat → Nat) (hf : ∀ i, i < l'.length → l'[i]? = l[f i]?) (hi : ∀ i j, i < l'.length → j < l'.length → f i = f j → i = j) : Heap w0 w l' := by
  obtain ⟨fr, σ, h1, h2, h3⟩ := h
  refine ⟨fr, fun i k => i < l'.length ∧ σ (f i) k, fun i P hP => ?_, fun i k hk => h2 _ k hk.2, fun i j k a b => hi i j a.1 b.1 (h3 _ _ k a.2 b.2)⟩
  have hlt := (List.getElem?_eq_some_iff.1 hP).1
  have := h1 (f i) P (by rw [← hf i hlt]; exact hP)
  simpa [hlt] using this
theorem Heap.swap12 {w0 w : World} {l : List Piece} {a b c : Piece} (h : Heap w0 w (l ++ [a, b, c])) : Heap w0 w (l ++ [b, a, c]) := by
  refine h.idx (fun i => if i = l.length then l.length + 1 else if i = l.length + 1 then l.length else i) (fun i hi => ?_) (fun i j hi hj e => ?_)
  · by_cases h1 : i < l.length
    · simp only [show i ≠ l.length from by omega, show i ≠ l.length + 1 from by omega, if_false]
      rw [List.getElem?_append_left h1, List.getElem?_append_left h1]
    · simp at hi
      rcases (by omega : i = l.length ∨ i = l.length + 1 ∨ i = l.length + 2) with rfl | rfl | rfl <;> simp
  · try simp only at e
    split at e <;> split at e <;> (try split at e) <;> (try split at e) <;> omega
theorem Heap.swap23 {w0 w : World} {l : List Piece} {a b c : Piece} (h : Heap w0 w (l ++ [a, b, c])) : Heap w0 w (l ++ [a, c, b]) := by
  refine h.idx (fun i => if i = l.length + 1 then l.length + 2 else if i = l.length + 2 then l.length + 1 else i) (fun i hi => ?_) (fun i j hi hj e => ?_)
  · by_cases h1 : i < l.length
    · simp only [show i ≠ l.length + 1 from by omega, show i ≠ l.length + 2 from by omega, if_false]
      rw [List.getElem?_append_left h1, List.getElem?_append_left h1]
    · simp at hi
      rcases (by omega : i = l.length ∨ i = l.length + 1 ∨ i = l.length + 2) with rfl | rfl | rfl <;> simp
  · try simp only at e
    split at e <;> split at e <;> (try split at e) <;> (try split at e) <;> omega
/-- Without some pieces in the middle. -/
theorem Heap.mid {w0 w : World} {l m r : List Piece} (h : Heap w0 w (l ++ m ++ r)) : Heap w0 w (l ++ r) := by
  refine h.idx (fun i => if i < l.length then i else i + m.length) (fun i hi => ?_) (fun i j hi hj e => ?_)
  · by_cases h1 : i < l.length
    · simp only [h1, if_true]
      rw [List.append_assoc, List.getElem?_append_left h1, List.getElem?_append_left h1]
    · simp only [h1, if_false]
      rw [List.getElem?_append_right (by omega), List.getElem?_append_right (by simp; omega)]
      congr 1
      simp; omega
  · try simp only at e
    split at e <;> split at e <;> omega
theorem get_last {α : Type} (l : List α) (x : α) : (l ++ [x])[l.length]? = some x := by simp
theorem get_left {α : Type} {l m : List α} {i : Nat} {x : α} (h : l[i]? = some x) : (l ++ m)[i]? = some x := by
  rw [List.getElem?_append_left (List.getElem?_eq_some_iff.1 h).1]; exact h
theorem Heap.set1 {w0 w : World} {l m : List Piece} (h : Heap w0 w (l ++ m)) (j : Nat) {b : Nat} {t : TypeId} {c : Array Value} (hj : l[j]? = some (blkP b t c)) (o : Nat) (u : Value) : Heap w0 (w.setCell ⟨b, o, none⟩ u) (l.set j (blkP b t (c.setIfInBounds o u)) ++ m) := by
  have := h.setCell j (get_left hj) o u
  rwa [List.set_append_left _ _ (List.getElem?_eq_some_iff.1 hj).1] at this
theorem get_set {α : Type} {l : List α} {j : Nat} {x : α} (h : l[j]? = some x) (y : α) : (l.set j y)[j]? = some y := List.getElem?_set_self (List.getElem?_eq_some_iff.1 h).1
theorem Heap.set3 {w0 w : World} {l m : List Piece} (h : Heap w0 w (l ++ m)) (j : Nat) {b : Nat} {t : TypeId} {v0 v1 v2 v3 v4 : Value} (hj : l[j]? = some (blkP b t #[v0, v1, v2, v3, v4])) (x2 x3 x4 : Value) : Heap w0 (((w.setCell ⟨b, 2, none⟩ x2).setCell ⟨b, 3, none⟩ x3).setCell ⟨b, 4, none⟩ x4) (l.set j (blkP b t #[v0, v1, x2, x3, x4]) ++ m) := by
  have h1 := ((h.set1 j hj 2 x2).set1 j (get_set hj _) 3 x3).set1 j (get_set (get_set hj _) _) 4 x4
  rwa [List.set_set, List.set_set] at h1
theorem Heap.set5 {w0 w : World} {l m : List Piece} (h : Heap w0 w (l ++ m)) (j : Nat) {b : Nat} {t : TypeId} {v0 v1 v2 v3 v4 : Value} (hj : l[j]? = some (blkP b t #[v0, v1, v2, v3, v4])) (x0 x1 x2 x3 x4 : Value) : Heap w0 (((((w.setCell ⟨b, 0, none⟩ x0).setCell ⟨b, 1, none⟩ x1).setCell ⟨b, 2, none⟩ x2).setCell ⟨b, 3, none⟩ x3).setCell ⟨b, 4, none⟩ x4) (l.set j (blkP b t #[x0, x1, x2, x3, x4]) ++ m) := by
  have h1 := ((((h.set1 j hj 0 x0).set1 j (get_set hj _) 1 x1).set1 j (get_set (get_set hj _) _) 2 x2).set1 j (get_set (get_set (get_set hj _) _) _) 3 x3).set1 j (get_set (get_set (get_set (get_set hj _) _) _) _) 4 x4
  rwa [List.set_set, List.set_set, List.set_set, List.set_set] at h1
end Go.Proofs.Ytblijgdmfohfcaa
