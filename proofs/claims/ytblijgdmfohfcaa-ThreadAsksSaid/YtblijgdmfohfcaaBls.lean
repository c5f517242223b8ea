/- A slice of truths that is handed in, opened. No condition. -/
import Derived.Test.YtblijgdmfohfcaaRead
namespace Go.Proofs.Ytblijgdmfohfcaa
open Go Go.RowKit
open Go.Joins Go.ChangeShapes Go.WideShapes Go.Deep
set_option linter.unusedVariables false
set_option linter.unusedSimpArgs false
theorem choose_bl {p : Nat → Bool → Prop} {n : Nat} (h : ∀ i, i < n → ∃ x, p i x) : ∃ X : Nat → Bool, ∀ i, i < n → p i (X i) := by
  classical
  exact ⟨fun i => if hi : i < n then Classical.choose (h i hi) else false, fun i hi => by simp only [hi, dif_pos]; exact Classical.choose_spec (h i hi)⟩
section
variable {H : Type} {enc : TypeId × Value → H} {P : Program} {w : World} {base : Nat} {spare : Nat → Bool} {held : Bool}
theorem RdV_bools {r : Reach} {b0 : Nat} {t e : TypeId} {v : Value} {d : DataW H} {p : List MemPlace} (ht : P.underlying t = some (.slice e)) (he : P.underlying e = some .bool) (hc : P.cellsOf e = 1)
    (hv : Value.okWide P w r b0 t v) (h : DataW.Trod enc P w base spare held t v d p) : ∃ bs : List Bool, RdV w v bs.length 1 (bs.map Value.bool) := by
  obtain ⟨a0, len0, cap0, rfl⟩ := okWide_slice ht hv
  obtain ⟨fuel, hf⟩ := h
  rcases open_slice1 ht hc hf with ⟨hcs, _⟩ | ⟨a, len, cap, m, n, V, D, Pl, hcs, hb, hl, hm, hmm, _, hx⟩
  · simp [Value.cells] at hcs
    obtain ⟨rfl, rfl, rfl⟩ := hcs
    exact ⟨[], ⟨rfl, by simp, .inl ⟨rfl, rfl⟩⟩⟩
  · simp [Value.cells] at hcs
    obtain ⟨rfl, rfl, rfl⟩ := hcs
    have hlm : len0 ≤ m := by rw [hmm]; split <;> omega
    obtain ⟨X, hX⟩ := choose_bl (n := len0) (p := fun i b => V i = .bool b) (fun i hi => by
      obtain ⟨b, h1, _⟩ := DataW.trod_bool he (hx i (by omega)).2
      exact ⟨b, by simpa using h1⟩)
    have hlen : ((List.range len0).map X).length = len0 := by simp
    refine ⟨(List.range len0).map X, ⟨by simp, by omega, .inr ⟨a, cap0, by rw [hlen], by omega, fun j hj => ?_⟩⟩⟩
    have hj' : j < len0 := by rw [hlen] at hj; omega
    rw [(hx j (by omega)).1, hX j hj']
    simp [hj']
end
end Go.Proofs.Ytblijgdmfohfcaa
