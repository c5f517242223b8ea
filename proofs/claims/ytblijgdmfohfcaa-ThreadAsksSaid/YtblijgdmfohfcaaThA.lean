/- A thread: what it is in memory; a piece laid open into its own pieces, and shut again. No condition. -/
import Derived.Test.YtblijgdmfohfcaaTask
import Derived.Test.YtblijgdmfohfcaaAppW
namespace Go.Proofs.Ytblijgdmfohfcaa
open Go Go.RowKit
set_option linter.unusedVariables false
set_option linter.unusedSimpArgs false
/-- A piece that is many is laid open: its own stand behind the others, nothing stays in its place. -/
theorem Heap.unpack {w0 w : World} {l m : List Piece} (h : Heap w0 w l) (i : Nat) (hi : l[i]? = some (manyP m)) : Heap w0 w (l.set i nilP ++ m) := by
  obtain ⟨f, σ, h1, h2, h3⟩ := h
  obtain ⟨τ, t1, t2, t3⟩ : Many w m (σ i) := h1 i _ hi
  have hil := (List.getElem?_eq_some_iff.1 hi).1
  refine ⟨f, fun j k => if j < l.length then (if j = i then False else σ j k) else τ (j - l.length) k, fun j P hj => ?_, fun j k hk => ?_, fun a b k ha hb => ?_⟩
  · by_cases hl : j < l.length
    · rw [List.getElem?_append_left (by simpa using hl)] at hj
      simp only [hl, if_true]
      by_cases hji : j = i
      · subst hji
        rw [List.getElem?_set_self hil] at hj
        simp at hj
        subst hj
        trivial
      · rw [List.getElem?_set_ne (fun x => hji x.symm)] at hj
        simp only [hji, if_false]
        exact h1 j P hj
    · rw [List.getElem?_append_right (by simpa using hl)] at hj
      simp only [hl, if_false]
      simpa using t1 (j - l.length) P (by simpa using hj)
  · simp only at hk
    split at hk
    · split at hk
      · exact hk.elim
      · exact h2 j k hk
    · exact h2 i k (t2 _ k hk).1
  · simp only at ha hb
    split at ha <;> split at hb
    · split at ha
      · exact ha.elim
      · split at hb
        · exact hb.elim
        · exact h3 a b k ha hb
    · split at ha
      · exact ha.elim
      · rename_i h5 _ h6
        exact (h6 (h3 a i k ha (t2 _ k hb).1)).elim
    · split at hb
      · exact hb.elim
      · rename_i h5 _ h6
        exact (h6 (h3 b i k hb (t2 _ k ha).1)).elim
    · have := t3 _ _ k ha hb
      omega
/-- The last ones go to an empty place, as one. -/
theorem Heap.repack {w0 w : World} {l m : List Piece} {i : Nat} (h : Heap w0 w (l.set i nilP ++ m)) (hil : i < l.length) : Heap w0 w (l.set i (manyP m)) := by
  have h' := h.pack
  have h2 := h'.idx (l' := l.set i (manyP m)) (fun j => if j = i then l.length else j) (fun j hj => ?_) (fun a b ha hb e => ?_)
  · exact h2
  · by_cases hji : j = i
    · subst hji
      simp only [if_true]
      rw [List.getElem?_set_self hil, List.getElem?_append_right (by simp)]
      simp
    · simp only [hji, if_false]
      rw [List.length_set] at hj
      rw [List.getElem?_append_left (by simpa using hj), List.getElem?_set_ne (fun x => hji x.symm), List.getElem?_set_ne (fun x => hji x.symm)]
  · rw [List.length_set] at ha hb
    try simp only at e
    split at e <;> split at e <;> omega
/-- A thread: its work, what it was answered, how far it was told that again, whether its touch is done, whether it goes on, whether it is at its end, what it came to. -/
structure Th where
  work : Value
  log : List Int
  at' : Nat
  spent : Bool
  inn : Bool
  done : Bool
  out : Value
def Th.cells (T : Th) (lv : Value) : Array Value := #[T.work, lv, .int .i64 (T.at' : Nat), .bool T.spent, .bool T.inn, .bool T.done, T.out]
def thL (tb : Nat) (lv : Value) (T : Th) : List Piece := [blkP tb 58 (T.cells lv), rowP 2 1 lv T.log.length (T.log.map (Value.int .i64))]
def thP (tb : Nat) (T : Th) : Piece where
  holds w S := ∃ lv, Many w (thL tb lv T) S
  keep h hf hn _ := by obtain ⟨lv, h⟩ := h; exact ⟨lv, h.keep hf hn⟩
theorem Heap.openTh {w0 w : World} {l : List Piece} (h : Heap w0 w l) (i : Nat) {tb : Nat} {T : Th} (hi : l[i]? = some (thP tb T)) : ∃ a c, Heap w0 w (l.set i nilP ++ thL tb (.slice a T.log.length c) T) := by
  obtain ⟨S, ⟨lv, hM⟩, hs, U⟩ := h.take i hi
  obtain ⟨R, hr, _⟩ := hM.get 1 rfl
  obtain ⟨a, c, rfl, _, _⟩ := hr.1.form
  have h2 := U (p' := manyP (thL tb (.slice a T.log.length c) T)) (S' := S) (Fr.refl _ _) hM (fun _ x => .inl x)
  have h3 := h2.unpack i (List.getElem?_set_self (List.getElem?_eq_some_iff.1 hi).1)
  rw [List.set_set] at h3
  exact ⟨a, c, h3⟩
theorem Heap.shutTh {w0 w : World} {l : List Piece} {i tb : Nat} {T : Th} {lv : Value} (h : Heap w0 w (l.set i nilP ++ thL tb lv T)) (hil : i < l.length) : Heap w0 w (l.set i (thP tb T)) := by
  have h2 := h.repack hil
  obtain ⟨S, hM, hs, U⟩ := h2.take i (p := manyP (thL tb lv T)) (List.getElem?_set_self hil)
  have h3 := U (p' := thP tb T) (S' := S) (Fr.refl _ _) ⟨lv, hM⟩ (fun _ x => .inl x)
  rwa [List.set_set] at h3
/-- Its cells. -/
theorem Heap.thBlk {w0 w : World} {l : List Piece} {i tb : Nat} {T : Th} {lv : Value} (h : Heap w0 w (l.set i nilP ++ thL tb lv T)) : Blk w tb 58 (T.cells lv) :=
  h.blk l.length (by rw [List.getElem?_append_right (by simp)]; simp [thL])
theorem Heap.thRow {w0 w : World} {l : List Piece} {i tb : Nat} {T : Th} {lv : Value} (h : Heap w0 w (l.set i nilP ++ thL tb lv T)) : QRow w 2 1 lv T.log.length (T.log.map (Value.int .i64)) :=
  h.row (l.length + 1) (by rw [List.getElem?_append_right (by simp)]; simp [thL])
/-- One of its cells is another one. -/
theorem Heap.thSet {w0 w : World} {l : List Piece} {i tb : Nat} {T T' : Th} {lv : Value} (h : Heap w0 w (l.set i nilP ++ thL tb lv T)) (o : Nat) (u : Value) (hc : (T.cells lv).setIfInBounds o u = T'.cells lv) (hl : T'.log = T.log) : Heap w0 (w.setCell ⟨tb, o, none⟩ u) (l.set i nilP ++ thL tb lv T') := by
  have h2 := h.setCell l.length (b := tb) (t := 58) (c := T.cells lv) (by rw [List.getElem?_append_right (by simp)]; simp [thL]) o u
  rw [List.set_append_right _ _ (by simp), hc] at h2
  simpa [thL, hl] using h2
theorem thAt0 {l : List Piece} {i tb : Nat} {lv : Value} {T : Th} : (l.set i nilP ++ thL tb lv T)[l.length]? = some (blkP tb 58 (T.cells lv)) := by
  rw [List.getElem?_append_right (by simp)]; simp [thL]
theorem thAt1 {l : List Piece} {i tb : Nat} {lv : Value} {T : Th} : (l.set i nilP ++ thL tb lv T)[l.length + 1]? = some (rowP 2 1 lv T.log.length (T.log.map (Value.int .i64))) := by
  rw [List.getElem?_append_right (by simp)]; simp [thL]
/-- It was told one more. -/
theorem Heap.thMore {w0 w : World} {l : List Piece} {i tb n' : Nat} {T T' : Th} {lv lv' : Value} {us : List Value} (h : Heap w0 w ((l.set i nilP ++ thL tb lv T).set (l.length + 1) (rowP 2 1 lv' n' us))) (u : Value)
    (hc : ((T.cells lv).setIfInBounds 1 lv').setIfInBounds 2 u = T'.cells lv') (hl : T'.log.length = n') (hu : T'.log.map (Value.int .i64) = us) :
    Heap w0 ((w.setCell ⟨tb, 1, none⟩ lv').setCell ⟨tb, 2, none⟩ u) (l.set i nilP ++ thL tb lv' T') := by
  have g1 := h.setCell l.length (b := tb) (t := 58) (c := T.cells lv) (by rw [List.getElem?_set_ne (by omega)]; exact thAt0) 1 lv'
  have hlt : l.length < ((l.set i nilP ++ thL tb lv T).set (l.length + 1) (rowP 2 1 lv' n' us)).length := by simp [thL]
  have g2 := g1.setCell l.length (b := tb) (t := 58) (c := (T.cells lv).setIfInBounds 1 lv') (List.getElem?_set_self hlt) 2 u
  rw [List.set_set, hc] at g2
  subst hl hu
  have e : ((l.set i nilP ++ thL tb lv T).set (l.length + 1) (rowP 2 1 lv' T'.log.length (T'.log.map (Value.int .i64)))).set l.length (blkP tb 58 (T'.cells lv')) = l.set i nilP ++ thL tb lv' T' := by
    rw [List.set_append_right _ _ (by simp), List.set_append_right _ _ (by simp)]
    simp [thL]
  rwa [e] at g2
end Go.Proofs.Ytblijgdmfohfcaa
