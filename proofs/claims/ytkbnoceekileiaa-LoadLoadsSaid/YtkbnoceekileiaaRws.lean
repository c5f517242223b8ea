/- Rows of structs: their cells by number, one of them written whole; pieces merged. No condition. -/
import Derived.Test.YtkbnoceekileiaaK1
namespace Go.Proofs.Ytkbnoceekileiaa
open Go Go.RowKit
set_option linter.unusedVariables false
set_option linter.unusedSimpArgs false
section
variable {α : Type} {f : α → List Value} {m : Nat}
theorem fm_len (hf : ∀ x, (f x).length = m) (l : List α) : (l.flatMap f).length = l.length * m := by
  induction l with
  | nil => simp
  | cons a l ih => rw [List.flatMap_cons, List.length_append, ih, hf, List.length_cons, Nat.add_mul]; omega
theorem fm_get (hf : ∀ x, (f x).length = m) : ∀ (l : List α) (i j : Nat) (x : α), l[i]? = some x → j < m → (l.flatMap f)[i * m + j]? = (f x)[j]?
  | [], i, j, x, h, _ => by simp at h
  | a :: l, 0, j, x, h, hj => by
    simp at h
    subst h
    rw [List.flatMap_cons, List.getElem?_append_left (by rw [hf]; omega)]
    congr 1; omega
  | a :: l, i + 1, j, x, h, hj => by
    rw [List.flatMap_cons, List.getElem?_append_right (by rw [hf, Nat.add_mul]; omega), hf, show (i + 1) * m + j - m = i * m + j by rw [Nat.add_mul]; omega]
    exact fm_get hf l i j x (by simpa using h) hj
theorem fm_other (hf : ∀ x, (f x).length = m) (l : List α) (p : Nat) (y : α) (k : Nat) (h : k < p * m ∨ p * m + m ≤ k) : ((l.set p y).flatMap f)[k]? = (l.flatMap f)[k]? := by
  rcases Nat.eq_zero_or_pos m with hm | hm
  · subst hm
    have h1 := fm_len hf (l.set p y)
    have h2 := fm_len hf l
    rw [List.getElem?_eq_none (by omega), List.getElem?_eq_none (by omega)]
  · obtain ⟨i, j, hj, rfl⟩ : ∃ i j, j < m ∧ k = i * m + j := ⟨k / m, k % m, Nat.mod_lt _ hm, by rw [Nat.mul_comm]; exact (Nat.div_add_mod k m).symm⟩
    have hne : p ≠ i := fun e => by subst e; omega
    cases hi : l[i]? with
    | none =>
      rw [List.getElem?_eq_none_iff] at hi
      have h1 : l.length * m ≤ i * m := Nat.mul_le_mul_right m hi
      rw [List.getElem?_eq_none (by rw [fm_len hf, List.length_set]; omega), List.getElem?_eq_none (by rw [fm_len hf]; omega)]
    | some x =>
      rw [fm_get hf _ i j x (by rw [List.getElem?_set_ne hne]; exact hi) hj, fm_get hf _ i j x hi hj]
theorem QRow.fillG {w : World} {t : TypeId} {g off cap : Nat} (hf : ∀ x, (f x).length = m) {l : List α} (h : QRow w t m (.slice (some ⟨g, off, none⟩) l.length cap) l.length (l.flatMap f)) {p : Nat} (hp : p < l.length) (y : α) :
    QRow (w.setCells g (off + p * m) (f y)) t m (.slice (some ⟨g, off, none⟩) l.length cap) l.length ((l.set p y).flatMap f) ∧ ∃ c, Blk (w.setCells g (off + p * m) (f y)) g t c := by
  have hpm : p * m + m ≤ l.length * m := by
    have := Nat.mul_le_mul_right m (show p + 1 ≤ l.length by omega)
    rw [Nat.add_mul] at this
    omega
  obtain ⟨h0, a, c, hv, h1, h2, h3⟩ := h
  simp only [Value.slice.injEq] at hv
  obtain ⟨rfl, _, rfl⟩ := hv
  rcases h3 with ⟨h9, _⟩ | ⟨g', off', cur, hg, hb, h4, h5⟩
  · omega
  · simp only [Option.some.injEq, Addr.mk.injEq] at hg
    obtain ⟨rfl, rfl, _⟩ := hg
    have hcm : l.length * m ≤ cap * m := Nat.mul_le_mul_right m h1
    obtain ⟨cur', k1, k2, k3, k4⟩ := Blk.setCells (f y) (off + p * m) hb (by rw [hf]; omega)
    refine ⟨⟨by rw [fm_len hf, List.length_set], _, cap, rfl, h1, h2, .inr ⟨g, off, cur', rfl, k1, by rw [k2]; exact h4, fun j u hu => ?_⟩⟩, cur', k1⟩
    by_cases hj : j < p * m ∨ p * m + m ≤ j
    · rw [fm_other hf l p y j hj] at hu
      rw [k3 _ (by rw [hf]; omega)]
      exact h5 j u hu
    · have hy : (l.set p y)[p]? = some y := List.getElem?_set_self hp
      have hjj : j = p * m + (j - p * m) := by omega
      rw [hjj, fm_get hf _ p _ _ hy (by omega)] at hu
      have := k4 _ _ hu
      rwa [show off + p * m + (j - p * m) = off + j from by omega] at this
theorem setCells_frG {F : Nat → Prop} {w : World} {g off : Nat} {news : List Value} (hF : F g) : Fr F w (w.setCells g off news) := by
  obtain ⟨r1, r2, r3, r4⟩ := setCells_rest (g := g) news w off
  exact ⟨r1, r2, r3, Nat.le_of_eq r4.symm, fun k hk hn => setCells_other news w off k (fun e => hn (e ▸ hF))⟩
/-- One element is written whole. -/
theorem Heap.fillG {w0 w : World} {L : List Piece} (h : Heap w0 w L) (i : Nat) (hf : ∀ x, (f x).length = m) {t : TypeId} {g off cap : Nat} {l : List α} (hi : L[i]? = some (rowP t m (.slice (some ⟨g, off, none⟩) l.length cap) l.length (l.flatMap f))) {p : Nat} (hp : p < l.length) (y : α) :
    Heap w0 (w.setCells g (off + p * m) (f y)) (L.set i (rowP t m (.slice (some ⟨g, off, none⟩) l.length cap) l.length ((l.set p y).flatMap f))) := by
  obtain ⟨S, h1, hs, U⟩ := h.take i hi
  have hg := (h1.2 g rfl).1
  obtain ⟨Q, c, hc⟩ := h1.1.fillG hf hp y
  exact U (S' := S) (setCells_frG hg) ⟨Q, fun k hk => by
    simp [Value.ownBlock] at hk
    subst hk
    exact ⟨hg, c, hc⟩⟩ (fun k hk => .inl hk)
/-- The cells of one element, and that they may be written. -/
theorem Heap.elemG {w0 w : World} {L : List Piece} (h : Heap w0 w L) (i : Nat) (hf : ∀ x, (f x).length = m) {t : TypeId} {g off cap : Nat} {l : List α} (hi : L[i]? = some (rowP t m (.slice (some ⟨g, off, none⟩) l.length cap) l.length (l.flatMap f))) {p : Nat} {x : α} (hp : l[p]? = some x) :
    (∀ j u, (f x)[j]? = some u → w.cell? ⟨g, off + p * m + j, none⟩ = some u) ∧ ∀ o, w.frozen? ⟨g, o, none⟩ = false := by
  have hr := h.row i hi
  have hpl := (List.getElem?_eq_some_iff.1 hp).1
  obtain ⟨g', off', cur, he, hb, _, hat⟩ := hr.at (by omega)
  simp only [Option.some.injEq, Addr.mk.injEq] at he
  obtain ⟨rfl, rfl, _⟩ := he
  refine ⟨fun j u hu => ?_, fun o => hb.froz o⟩
  have hj : j < m := by have := (List.getElem?_eq_some_iff.1 hu).1; rw [hf] at this; exact this
  have := hat (p * m + j) u (by rw [fm_get hf l p j x hp hj]; exact hu)
  rwa [← Nat.add_assoc] at this
end
/-- A piece is held as another one. -/
theorem Heap.imp {w0 w : World} {L : List Piece} (h : Heap w0 w L) (i : Nat) {p q : Piece} (hi : L[i]? = some p) (hpq : ∀ S, p.holds w S → q.holds w S) : Heap w0 w (L.set i q) := by
  obtain ⟨f, σ, h1, h2, h3⟩ := h
  refine ⟨f, σ, fun j P hj => ?_, h2, h3⟩
  by_cases e : i = j
  · subst e
    rw [List.getElem?_set_self (List.getElem?_eq_some_iff.1 hi).1] at hj
    injection hj with hj
    subst hj
    exact hpq _ (h1 i p hi)
  · rw [List.getElem?_set_ne e] at hj
    exact h1 j P hj
theorem Heap.impEnd {w0 w : World} {L : List Piece} {p q : Piece} (h : Heap w0 w (L ++ [p])) (hpq : ∀ S, p.holds w S → q.holds w S) : Heap w0 w (L ++ [q]) := by
  have := h.imp L.length (p := p) (q := q) (by simp) hpq
  rwa [List.set_append_right _ _ (Nat.le_refl _), Nat.sub_self] at this
theorem Heap.swapE {w0 w : World} {A B C : List Piece} (h : Heap w0 w (A ++ B ++ C)) : Heap w0 w (A ++ C ++ B) := by
  refine h.idx (fun i => if i < A.length then i else if i < A.length + C.length then i + B.length else i - C.length) (fun i hi => ?_) (fun i j hi hj e => ?_)
  · simp at hi
    by_cases h1 : i < A.length
    · rw [if_pos h1]
      simp only [List.append_assoc]
      rw [List.getElem?_append_left h1, List.getElem?_append_left h1]
    · rw [if_neg h1]
      by_cases h2 : i < A.length + C.length
      · rw [if_pos h2]
        simp only [List.append_assoc]
        rw [List.getElem?_append_right (by omega), List.getElem?_append_left (by omega), List.getElem?_append_right (by omega), List.getElem?_append_right (by omega)]
        congr 1; omega
      · rw [if_neg h2]
        simp only [List.append_assoc]
        rw [List.getElem?_append_right (by omega), List.getElem?_append_right (by omega), List.getElem?_append_right (by omega), List.getElem?_append_left (by omega)]
        congr 1; omega
  · simp at hi hj
    split at e <;> split at e <;> (try split at e) <;> (try split at e) <;> omega
theorem Heap.rowNilG {w0 w : World} {L : List Piece} (h : Heap w0 w L) (t : TypeId) (sz : Nat) : Heap w0 w (L ++ [rowP t sz (.slice none 0 0) 0 []]) := h.push (p := rowP t sz (.slice none 0 0) 0 []) (S := fun _ => False) (Fr.refl _ _) ⟨QRow.nil _ _ _, fun g hg => by simp [Value.ownBlock] at hg⟩ (fun _ x => x.elim)
theorem add_fieldG (a : Addr) (n j : Nat) : a.add (n + (j + 1)) = ⟨(a.add n).block, (a.add n).off + (j + 1), none⟩ := by
  unfold Addr.add
  rw [if_neg (by omega)]
  split
  · simp_all
  · simp; omega
end Go.Proofs.Ytkbnoceekileiaa
