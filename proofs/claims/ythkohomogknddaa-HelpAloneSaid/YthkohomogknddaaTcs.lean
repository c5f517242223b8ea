/- A slice of touches that is handed in, opened. No condition. -/
import Derived.Test.YthkohomogknddaaThG
import Derived.Test.YthkohomogknddaaK1
namespace Go.Proofs.Ythkohomogknddaa
open Go Go.RowKit
open Go.Joins Go.ChangeShapes Go.WideShapes Go.Deep
set_option linter.unusedVariables false
set_option linter.unusedSimpArgs false
theorem choose_tc {p : Nat → Tc → Prop} {n : Nat} (h : ∀ i, i < n → ∃ x, p i x) : ∃ X : Nat → Tc, ∀ i, i < n → p i (X i) := by
  classical
  exact ⟨fun i => if hi : i < n then Classical.choose (h i hi) else ⟨0, 0⟩, fun i hi => by simp only [hi, dif_pos]; exact Classical.choose_spec (h i hi)⟩
section
variable {H : Type} {enc : TypeId × Value → H} {P : Program} {w : World} {base : Nat} {spare : Nat → Bool} {held : Bool}
theorem RdV_touches {r : Reach} {b0 : Nat} {t e : TypeId} {f0 f1 : Field} {v : Value} {d : DataW H} {p : List MemPlace} (ht : P.underlying t = some (.slice e)) (he : P.underlying e = some (.struct #[f0, f1])) (hone : oneCellFields P #[f0, f1] = true) (hC : P.cellsOf e = 2)
    (e0 : P.underlying f0.type = some (.int .u8)) (e1 : P.underlying f1.type = some (.int .i8))
    (hv : Value.okWide P w r b0 t v) (h : DataW.Trod enc P w base spare held t v d p) : ∃ xs : List Tc, RdV w v xs.length 2 (tcC xs) ∧ ∀ x ∈ xs, x.ok := by
  obtain ⟨a0, len0, cap0, rfl⟩ := okWide_slice ht hv
  obtain ⟨fuel, hf⟩ := h
  rcases open_slice_fields ht he hone hC hf with ⟨hcs, _⟩ | ⟨a, len, cap, V, hcs, hl, hm, hV⟩
  · simp [Value.cells] at hcs
    obtain ⟨rfl, rfl, rfl⟩ := hcs
    exact ⟨[], ⟨rfl, by simp, .inl ⟨rfl, rfl⟩⟩, by simp⟩
  · simp [Value.cells] at hcs
    obtain ⟨rfl, rfl, rfl⟩ := hcs
    have key : ∀ i, i < len0 → ∃ x : Tc, x.ok ∧ w.cell? (a.add (i * 2)) = some (.int .u8 x.d) ∧ w.cell? (a.add (i * 2 + 1)) = some (.int .i8 x.k) := fun i hi => by
      obtain ⟨m0, y0, c0, t0⟩ := hV i hi 0 f0 rfl
      obtain ⟨m1, y1, c1, t1⟩ := hV i hi 1 f1 rfl
      obtain ⟨z0, v0, w0⟩ := int_of_trod e0 t0
      obtain ⟨z1, v1, w1⟩ := int_of_trod e1 t1
      exact ⟨⟨z0, z1⟩, ⟨bounds_u8 w0, bounds_i8 w1⟩, c0.trans (by rw [v0]), c1.trans (by rw [v1])⟩
    obtain ⟨X, hX⟩ := choose_tc (p := fun i x => x.ok ∧ w.cell? (a.add (i * 2)) = some (.int .u8 x.d) ∧ w.cell? (a.add (i * 2 + 1)) = some (.int .i8 x.k)) key
    have hlen : ((List.range len0).map X).length = len0 := by simp
    refine ⟨(List.range len0).map X, ⟨tcC_length _, by omega, .inr ⟨a, cap0, by rw [hlen], by omega, fun j hj => ?_⟩⟩, fun x hx => ?_⟩
    · rw [hlen] at hj
      obtain ⟨q, hq, hj2⟩ : ∃ q, q < len0 ∧ (j = q * 2 ∨ j = q * 2 + 1) := ⟨j / 2, by omega, by omega⟩
      obtain ⟨g0, g1⟩ := tcC_get ((List.range len0).map X) q (X q) (by simp [hq])
      obtain ⟨_, k0, k1⟩ := hX q hq
      rcases hj2 with rfl | rfl
      · exact k0.trans g0.symm
      · exact k1.trans g1.symm
    · simp only [List.mem_map, List.mem_range] at hx
      obtain ⟨i, hi, rfl⟩ := hx
      exact (hX i hi).1
end
end Go.Proofs.Ythkohomogknddaa
