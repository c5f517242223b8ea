/- Pieces of memory that lie apart: what each says stays while others change. No condition. -/
import Derived.Test.YtblijgdmfohfcaaBase
namespace Go.Proofs.Ytblijgdmfohfcaa
open Go Go.RowKit
set_option linter.unusedVariables false
set_option linter.unusedSimpArgs false
/-- A piece of memory: what it says of a world and of the blocks that it has; it stays so while none of these is changed. -/
structure Piece where
  holds : World → (Nat → Prop) → Prop
  keep : ∀ {w w' : World} {S F : Nat → Prop}, holds w S → Fr F w w' → (∀ k, S k → ¬ F k) → (∀ k, S k → k < w.heap.size) → holds w' S
/-- Since w0 only new blocks were written; they are those of these pieces, each its own, and others. -/
structure Heap (w0 w : World) (l : List Piece) : Prop where
  fr : Fr nob w0 w
  own : ∃ σ : Nat → Nat → Prop, (∀ (i : Nat) (P : Piece), l[i]? = some P → P.holds w (σ i)) ∧ (∀ i k, σ i k → w0.heap.size ≤ k ∧ k < w.heap.size) ∧ (∀ i j k, σ i k → σ j k → i = j)
theorem Heap.start (w : World) : Heap w w [] := ⟨Fr.refl _ _, fun _ _ => False, fun i P h => by simp at h, fun _ _ h => h.elim, fun _ _ _ h => h.elim⟩
theorem Heap.go {w0 w w' : World} {l : List Piece} (h : Heap w0 w l) (hf : Fr nob w w') : Heap w0 w' l := by
  obtain ⟨f, σ, h1, h2, h3⟩ := h
  exact ⟨f.trans hf (fun _ _ x => x), σ, fun i P hi => P.keep (h1 i P hi) hf (fun _ _ x => x) (fun k hk => (h2 i k hk).2), fun i k hk => ⟨(h2 i k hk).1, Nat.lt_of_lt_of_le (h2 i k hk).2 hf.size⟩, h3⟩
/-- A new piece, of new blocks. -/
theorem Heap.push {w0 w w' : World} {l : List Piece} (h : Heap w0 w l) (hf : Fr nob w w') {p : Piece} {S : Nat → Prop} (hp : p.holds w' S) (hs : ∀ k, S k → w.heap.size ≤ k ∧ k < w'.heap.size) : Heap w0 w' (l ++ [p]) := by
  obtain ⟨f, σ, h1, h2, h3⟩ := h
  have hz := f.size
  refine ⟨f.trans hf (fun _ _ x => x), fun i k => if i < l.length then σ i k else if i = l.length then S k else False, fun i P hi => ?_, fun i k hk => ?_, fun i j k hi hj => ?_⟩
  · by_cases hl : i < l.length
    · simp only [hl, if_true]
      rw [List.getElem?_append_left hl] at hi
      exact P.keep (h1 i P hi) hf (fun _ _ x => x) (fun k hk => (h2 i k hk).2)
    · have : i = l.length := by
        have := (List.getElem?_eq_some_iff.1 hi).1
        simp at this; omega
      subst this
      simp at hi
      subst hi
      simpa using hp
  · simp only at hk
    split at hk
    · exact ⟨(h2 i k hk).1, Nat.lt_of_lt_of_le (h2 i k hk).2 hf.size⟩
    · split at hk
      · exact ⟨Nat.le_trans hz (hs k hk).1, (hs k hk).2⟩
      · exact hk.elim
  · simp only at hi hj
    split at hi <;> split at hj
    · exact h3 i j k hi hj
    · split at hj
      · have := (h2 i k hi).2; have := (hs k hj).1; omega
      · exact hj.elim
    · split at hi
      · have := (h2 j k hj).2; have := (hs k hi).1; omega
      · exact hi.elim
    · split at hi
      · split at hj
        · omega
        · exact hj.elim
      · exact hi.elim
/-- A piece is taken; what becomes of it is given back. -/
theorem Heap.take {w0 w : World} {l : List Piece} (h : Heap w0 w l) (i : Nat) {p : Piece} (hi : l[i]? = some p) : ∃ S : Nat → Prop, p.holds w S ∧ (∀ k, S k → w0.heap.size ≤ k ∧ k < w.heap.size) ∧
    ∀ {w' : World} {p' : Piece} {S' : Nat → Prop}, Fr S w w' → p'.holds w' S' → (∀ k, S' k → S k ∨ (w.heap.size ≤ k ∧ k < w'.heap.size)) → Heap w0 w' (l.set i p') := by
  obtain ⟨f, σ, h1, h2, h3⟩ := h
  refine ⟨σ i, h1 i p hi, h2 i, fun {w' p' S'} hf hp hs => ?_⟩
  have hz := f.size
  have hil := (List.getElem?_eq_some_iff.1 hi).1
  refine ⟨f.trans hf (fun k hk hx => by have := (h2 i k hx).1; omega), fun j k => if j = i then S' k else σ j k, fun j P hj => ?_, fun j k hk => ?_, fun j j' k hj hj' => ?_⟩
  · by_cases hji : j = i
    · subst hji
      rw [List.getElem?_set_self hil] at hj
      simp at hj
      subst hj
      simpa using hp
    · rw [List.getElem?_set_ne (fun x => hji x.symm)] at hj
      simp only [hji, if_false]
      exact P.keep (h1 j P hj) hf (fun k hk hx => hji (h3 j i k hk hx)) (fun k hk => (h2 j k hk).2)
  · simp only at hk
    split at hk
    · rcases hs k hk with hk | hk
      · exact ⟨(h2 i k hk).1, Nat.lt_of_lt_of_le (h2 i k hk).2 hf.size⟩
      · exact ⟨Nat.le_trans hz hk.1, hk.2⟩
    · exact ⟨(h2 j k hk).1, Nat.lt_of_lt_of_le (h2 j k hk).2 hf.size⟩
  · simp only at hj hj'
    split at hj <;> split at hj'
    · omega
    · rcases hs k hj with hk | hk
      · have := h3 i j' k hk hj'; omega
      · have := (h2 j' k hj').2; omega
    · rcases hs k hj' with hk | hk
      · have := h3 i j k hk hj; omega
      · have := (h2 j k hj).2; omega
    · exact h3 j j' k hj hj'
/-- The same, of two pieces. -/
theorem Heap.take2 {w0 w : World} {l : List Piece} (h : Heap w0 w l) (i j : Nat) {p q : Piece} (hi : l[i]? = some p) (hj : l[j]? = some q) (hij : i ≠ j) : ∃ S T : Nat → Prop, p.holds w S ∧ q.holds w T ∧ (∀ k, S k → ¬ T k) ∧ (∀ k, S k ∨ T k → w0.heap.size ≤ k ∧ k < w.heap.size) ∧
    ∀ {w' : World} {p' q' : Piece} {S' T' : Nat → Prop}, Fr (fun k => S k ∨ T k) w w' → p'.holds w' S' → q'.holds w' T' → (∀ k, S' k → ¬ T' k) → (∀ k, S' k ∨ T' k → S k ∨ T k ∨ (w.heap.size ≤ k ∧ k < w'.heap.size)) → Heap w0 w' ((l.set i p').set j q') := by
  obtain ⟨f, σ, h1, h2, h3⟩ := h
  refine ⟨σ i, σ j, h1 i p hi, h1 j q hj, fun k hk hx => hij (h3 i j k hk hx), fun k hk => by rcases hk with hk | hk <;> exact h2 _ k hk, fun {w' p' q' S' T'} hf hp hq hst hs => ?_⟩
  have hz := f.size
  have hil := (List.getElem?_eq_some_iff.1 hi).1
  have hjl := (List.getElem?_eq_some_iff.1 hj).1
  refine ⟨f.trans hf (fun k hk hx => by rcases hx with hx | hx <;> (have := (h2 _ k hx).1; omega)), fun a k => if a = i then S' k else if a = j then T' k else σ a k, fun a P ha => ?_, fun a k hk => ?_, fun a b k ha hb => ?_⟩
  · by_cases haj : a = j
    · subst haj
      rw [List.getElem?_set_self (by simpa using hjl)] at ha
      simp at ha
      subst ha
      simpa [show a ≠ i from fun x => hij x.symm] using hq
    · rw [List.getElem?_set_ne (fun x => haj x.symm)] at ha
      by_cases hai : a = i
      · subst hai
        rw [List.getElem?_set_self hil] at ha
        simp at ha
        subst ha
        simpa using hp
      · rw [List.getElem?_set_ne (fun x => hai x.symm)] at ha
        simp only [hai, haj, if_false]
        exact P.keep (h1 a P ha) hf (fun k hk hx => by rcases hx with hx | hx; exact hai (h3 a i k hk hx); exact haj (h3 a j k hk hx)) (fun k hk => (h2 a k hk).2)
  · have key : ∀ k, S' k ∨ T' k → w0.heap.size ≤ k ∧ k < w'.heap.size := fun k hk => by
      rcases hs k hk with hk | hk | hk
      · exact ⟨(h2 i k hk).1, Nat.lt_of_lt_of_le (h2 i k hk).2 hf.size⟩
      · exact ⟨(h2 j k hk).1, Nat.lt_of_lt_of_le (h2 j k hk).2 hf.size⟩
      · exact ⟨Nat.le_trans hz hk.1, hk.2⟩
    simp only at hk
    split at hk
    · exact key k (.inl hk)
    · split at hk
      · exact key k (.inr hk)
      · exact ⟨(h2 a k hk).1, Nat.lt_of_lt_of_le (h2 a k hk).2 hf.size⟩
  · have key : ∀ c k, c ≠ i → c ≠ j → σ c k → ¬ (S' k ∨ T' k) := fun c k hci hcj hc hk => by
      rcases hs k hk with hk | hk | hk
      · exact hci (h3 c i k hc hk)
      · exact hcj (h3 c j k hc hk)
      · have := (h2 c k hc).2; omega
    simp only at ha hb
    by_cases a1 : a = i <;> by_cases b1 : b = i
    · omega
    · by_cases b2 : b = j
      · simp only [a1, b1, b2, if_true, if_false, show j ≠ i from fun x => hij x.symm] at ha hb
        exact (hst k ha hb).elim
      · simp only [a1, b1, b2, if_true, if_false] at ha hb
        exact (key b k b1 b2 hb (.inl ha)).elim
    · by_cases a2 : a = j
      · simp only [a1, b1, a2, if_true, if_false, show j ≠ i from fun x => hij x.symm] at ha hb
        exact (hst k hb ha).elim
      · simp only [a1, b1, a2, if_true, if_false] at ha hb
        exact (key a k a1 a2 ha (.inl hb)).elim
    · by_cases a2 : a = j <;> by_cases b2 : b = j
      · omega
      · simp only [a1, b1, a2, b2, if_true, if_false, show j ≠ i from fun x => hij x.symm] at ha hb
        exact (key b k b1 b2 hb (.inr ha)).elim
      · simp only [a1, b1, a2, b2, if_true, if_false, show j ≠ i from fun x => hij x.symm] at ha hb
        exact (key a k a1 a2 ha (.inr hb)).elim
      · simp only [a1, b1, a2, b2, if_false] at ha hb
        exact h3 a b k ha hb
/-- What a piece says. -/
theorem Heap.get {w0 w : World} {l : List Piece} (h : Heap w0 w l) (i : Nat) {p : Piece} (hi : l[i]? = some p) : ∃ S : Nat → Prop, p.holds w S ∧ (∀ k, S k → w0.heap.size ≤ k ∧ k < w.heap.size) := by
  obtain ⟨S, h1, h2, _⟩ := h.take i hi
  exact ⟨S, h1, h2⟩
/-- The first pieces of some. -/
theorem Heap.first {w0 w : World} {l r : List Piece} (h : Heap w0 w (l ++ r)) : Heap w0 w l := by
  obtain ⟨f, σ, h1, h2, h3⟩ := h
  exact ⟨f, σ, fun i P hi => h1 i P (by rw [List.getElem?_append_left (List.getElem?_eq_some_iff.1 hi).1]; exact hi), h2, h3⟩
theorem Heap.first2 {w0 w : World} {a b c : Piece} (h : Heap w0 w [a, b, c]) : Heap w0 w [a, b] := h.first (l := [a, b]) (r := [c])
theorem Heap.below {w0 w : World} {l : List Piece} (h : Heap w0 w l) : Below w0.heap.size w0 w := h.fr.below (Nat.le_refl _) (fun _ x => x.elim)
theorem Heap.drew {w0 w : World} {l : List Piece} (h : Heap w0 w l) : Heap w0 w.drew l := h.go (Fr.drew (Fr.refl _ _))
theorem Heap.drewN {w0 w : World} {l : List Piece} (h : Heap w0 w l) (n : Nat) : Heap w0 (w.drewN n) l := h.go (Fr.drewN (Fr.refl _ _) n)
theorem Heap.skip {w0 w : World} {l : List Piece} (h : Heap w0 w l) (o : Obj) : Heap w0 (w.alloc o) l := h.go (Fr.alloc (Fr.refl _ _) o)
/-- A block known whole. -/
def blkP (b : Nat) (t : TypeId) (c : Array Value) : Piece where
  holds w S := Blk w b t c ∧ S b
  keep h hf hn _ := ⟨h.1.fr hf (hn _ h.2), h.2⟩
theorem Heap.alloc {w0 w : World} {l : List Piece} (h : Heap w0 w l) (t : TypeId) (c : Array Value) : Heap w0 (w.alloc (.cells c t)) (l ++ [blkP w.heap.size t c]) :=
  h.push (S := fun k => k = w.heap.size) (Fr.alloc (Fr.refl _ _) _) ⟨Blk.new w t c, rfl⟩ (fun k hk => by subst hk; simp)
theorem Heap.blk {w0 w : World} {l : List Piece} (h : Heap w0 w l) (i : Nat) {b : Nat} {t : TypeId} {c : Array Value} (hi : l[i]? = some (blkP b t c)) : Blk w b t c := by
  obtain ⟨S, h1, _⟩ := h.get i hi
  exact h1.1
theorem Heap.setCell {w0 w : World} {l : List Piece} (h : Heap w0 w l) (i : Nat) {b : Nat} {t : TypeId} {c : Array Value} (hi : l[i]? = some (blkP b t c)) (o : Nat) (u : Value) : Heap w0 (w.setCell ⟨b, o, none⟩ u) (l.set i (blkP b t (c.setIfInBounds o u))) := by
  obtain ⟨S, h1, _, U⟩ := h.take i hi
  exact U (S' := S) ((Fr.refl _ _).setCell (.inl h1.2) u) ⟨h1.1.set o u, h1.2⟩ (fun k hk => .inl hk)
end Go.Proofs.Ytblijgdmfohfcaa
