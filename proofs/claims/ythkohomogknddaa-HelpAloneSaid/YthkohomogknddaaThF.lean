/- A struct with one row of its own in memory; the cell that all share: what Done makes of it. No condition but the bounds of size. -/
import Derived.Test.YthkohomogknddaaK5
namespace Go.Proofs.Ythkohomogknddaa
open Go Go.RowKit
set_option linter.unusedVariables false
set_option linter.unusedSimpArgs false
/-- A block one of whose cells is a row of its own. -/
def rowedP (b : Nat) (t : TypeId) (cs : Value → Array Value) (et : TypeId) (n : Nat) (us : List Value) : Piece where
  holds w S := ∃ lv, Many w [blkP b t (cs lv), rowP et 1 lv n us] S
  keep h hf hn _ := by obtain ⟨lv, h⟩ := h; exact ⟨lv, h.keep hf hn⟩
section
variable {w0 w : World} {l : List Piece} {i b n : Nat} {t et : TypeId} {cs : Value → Array Value} {us : List Value} {lv : Value}
theorem Heap.openR (h : Heap w0 w l) (i : Nat) (hi : l[i]? = some (rowedP b t cs et n us)) : ∃ a c, Heap w0 w (l.set i nilP ++ [blkP b t (cs (.slice a n c)), rowP et 1 (.slice a n c) n us]) := by
  obtain ⟨S, ⟨lv, hM⟩, hs, U⟩ := h.take i hi
  obtain ⟨R, hr, _⟩ := hM.get 1 rfl
  obtain ⟨a, c, rfl, _, _⟩ := hr.1.form
  have h2 := U (p' := manyP [blkP b t (cs (.slice a n c)), rowP et 1 (.slice a n c) n us]) (S' := S) (Fr.refl _ _) hM (fun _ x => .inl x)
  have h3 := h2.unpack i (List.getElem?_set_self (List.getElem?_eq_some_iff.1 hi).1)
  rw [List.set_set] at h3
  exact ⟨a, c, h3⟩
theorem Heap.shutR (h : Heap w0 w (l.set i nilP ++ [blkP b t (cs lv), rowP et 1 lv n us])) (hil : i < l.length) : Heap w0 w (l.set i (rowedP b t cs et n us)) := by
  have h2 := h.repack hil
  obtain ⟨S, hM, hs, U⟩ := h2.take i (p := manyP [blkP b t (cs lv), rowP et 1 lv n us]) (List.getElem?_set_self hil)
  have h3 := U (p' := rowedP b t cs et n us) (S' := S) (Fr.refl _ _) ⟨lv, hM⟩ (fun _ x => .inl x)
  rwa [List.set_set] at h3
theorem Heap.rBlk (h : Heap w0 w (l.set i nilP ++ [blkP b t (cs lv), rowP et 1 lv n us])) : Blk w b t (cs lv) := h.blk l.length (by rw [List.getElem?_append_right (by simp)]; simp)
theorem Heap.rRow (h : Heap w0 w (l.set i nilP ++ [blkP b t (cs lv), rowP et 1 lv n us])) : QRow w et 1 lv n us := h.row (l.length + 1) (by rw [List.getElem?_append_right (by simp)]; simp)
theorem rAt1 {q : Piece} : (l.set i nilP ++ [q, rowP et 1 lv n us])[l.length + 1]? = some (rowP et 1 lv n us) := by rw [List.getElem?_append_right (by simp)]; simp
/-- Its row lies elsewhere than the block. -/
theorem Heap.rApart (h : Heap w0 w (l.set i nilP ++ [blkP b t (cs lv), rowP et 1 lv n us])) (hne : t ≠ et) : lv.ownBlock ≠ some b := fun e => by
  obtain ⟨S, hS, _⟩ := h.get (l.length + 1) rAt1
  obtain ⟨c, hc⟩ := (hS.2 b e).2
  exact hc.ne h.rBlk (fun x => hne x.symm) rfl
theorem Heap.rSet (h : Heap w0 w (l.set i nilP ++ [blkP b t (cs lv), rowP et 1 lv n us])) (o : Nat) (u : Value) (cs' : Value → Array Value) (hc : (cs lv).setIfInBounds o u = cs' lv) : Heap w0 (w.setCell ⟨b, o, none⟩ u) (l.set i nilP ++ [blkP b t (cs' lv), rowP et 1 lv n us]) := by
  have h2 := h.setCell l.length (b := b) (t := t) (c := cs lv) (by rw [List.getElem?_append_right (by simp)]; simp) o u
  rw [List.set_append_right _ _ (by simp), hc] at h2
  simpa using h2
/-- The row grew; the block is told so. -/
theorem Heap.rGrow {wa w' : World} {n' o : Nat} {lv' : Value} {us' : List Value} (h : Heap w0 w (l.set i nilP ++ [blkP b t (cs lv), rowP et 1 lv n us])) (hf : Fr nob w wa) (q : QRow w' et 1 lv' n' us') (hg : wa.grownBy w' lv.ownBlock)
    (hat : ∀ g, lv'.ownBlock = some g → (lv.ownBlock = some g ∨ wa.heap.size ≤ g) ∧ ∃ c, Blk w' g et c) (hc : (cs lv).setIfInBounds o lv' = cs lv') : Heap w0 (w'.setCell ⟨b, o, none⟩ lv') (l.set i nilP ++ [blkP b t (cs lv'), rowP et 1 lv' n' us']) := by
  have g0 := h.growRow (l.length + 1) rAt1 hf q hg hat
  have e : (l.set i nilP ++ [blkP b t (cs lv), rowP et 1 lv n us]).set (l.length + 1) (rowP et 1 lv' n' us') = l.set i nilP ++ [blkP b t (cs lv), rowP et 1 lv' n' us'] := by
    rw [List.set_append_right _ _ (by simp)]; simp
  rw [e] at g0
  have g1 := g0.setCell l.length (b := b) (t := t) (c := cs lv) (by rw [List.getElem?_append_right (by simp)]; simp) o lv'
  rw [List.set_append_right _ _ (by simp), hc] at g1
  simpa using g1
end
/-- The cell: a number, and what touched it. -/
structure Ce where
  n : Int
  log : List Int
/-- A touch: what it does, with a number. -/
structure Tc where
  d : Int
  k : Int
def ceC (s : Ce) (lv : Value) : Array Value := #[.int .i64 s.n, lv]
def ceNext (x : Tc) (n : Int) : Int := if x.d % 4 = 1 then wrap64 (n + x.k) else if x.d % 4 = 2 then x.k else if x.d % 4 = 3 then (if n.tmod 2 = 0 then wrap64 (wrap64 (3 * n) + x.k) else n) else n
theorem tc_facts (x : Tc) (d0 : 0 ≤ x.d) (d1 : x.d ≤ 255) (k0 : -128 ≤ x.k) (k1 : x.k ≤ 127) (D : Int) (hm : x.d % 4 = D) : IntKind.i64.wrap (x.d.tmod 4) = D ∧ IntKind.i64.wrap x.k = x.k := by
  rw [Int.tmod_eq_emod_of_nonneg d0, hm, IntKind.wrap_i64, IntKind.wrap_i64]
  constructor <;> omega
/-- One touch. -/
def ceDone (x : Tc) (s : Ce) : Int × Ce := (s.n, ⟨ceNext x s.n, s.log ++ [x.d % 4, x.k, s.n]⟩)
section
variable {w0 w : World} {l : List Piece} {cb i : Nat} {s : Ce}
end
end Go.Proofs.Ythkohomogknddaa
