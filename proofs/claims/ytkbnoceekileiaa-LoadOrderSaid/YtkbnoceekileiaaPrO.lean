/- A slice of pairs that is handed in, opened. No condition. -/
import Derived.Test.YtkbnoceekileiaaPrs
import Derived.Test.YtkbnoceekileiaaK1
namespace Go.Proofs.Ytkbnoceekileiaa
open Go Go.RowKit
open Go.Joins Go.ChangeShapes Go.WideShapes Go.Deep
set_option linter.unusedVariables false
set_option linter.unusedSimpArgs false
theorem choose_pr {p : Nat → Int × Int → Prop} {n : Nat} (h : ∀ i, i < n → ∃ x, p i x) : ∃ X : Nat → Int × Int, ∀ i, i < n → p i (X i) := by
  classical
  exact ⟨fun i => if hi : i < n then Classical.choose (h i hi) else (0, 0), fun i hi => by simp only [hi, dif_pos]; exact Classical.choose_spec (h i hi)⟩
section
variable {H : Type} {enc : TypeId × Value → H} {P : Program} {w : World} {base : Nat} {spare : Nat → Bool} {held : Bool}
theorem RdV_pairs {r : Reach} {b0 : Nat} {t e : TypeId} {f0 f1 : Field} {v : Value} {d : DataW H} {p : List MemPlace} (ht : P.underlying t = some (.slice e)) (he : P.underlying e = some (.struct #[f0, f1])) (hone : oneCellFields P #[f0, f1] = true) (hC : P.cellsOf e = 2)
    (e0 : P.underlying f0.type = some (.int .i64)) (e1 : P.underlying f1.type = some (.int .i64))
    (hv : Value.okWide P w r b0 t v) (h : DataW.Trod enc P w base spare held t v d p) : ∃ xs : List (Int × Int), RdV w v xs.length 2 (pairC xs) := by
  obtain ⟨a0, len0, cap0, rfl⟩ := okWide_slice ht hv
  obtain ⟨fuel, hf⟩ := h
  rcases open_slice_fields ht he hone hC hf with ⟨hcs, _⟩ | ⟨a, len, cap, V, hcs, hl, hm, hV⟩
  · simp [Value.cells] at hcs
    obtain ⟨rfl, rfl, rfl⟩ := hcs
    exact ⟨[], ⟨rfl, by simp, .inl ⟨rfl, rfl⟩⟩⟩
  · simp [Value.cells] at hcs
    obtain ⟨rfl, rfl, rfl⟩ := hcs
    have key : ∀ i, i < len0 → ∃ x : Int × Int, w.cell? (a.add (i * 2)) = some (.int .i64 x.1) ∧ w.cell? (a.add (i * 2 + 1)) = some (.int .i64 x.2) := fun i hi => by
      obtain ⟨m0, y0, c0, t0⟩ := hV i hi 0 f0 rfl
      obtain ⟨m1, y1, c1, t1⟩ := hV i hi 1 f1 rfl
      obtain ⟨z0, v0, w0⟩ := int_of_trod e0 t0
      obtain ⟨z1, v1, w1⟩ := int_of_trod e1 t1
      exact ⟨⟨z0, z1⟩, c0.trans (by rw [v0]), c1.trans (by rw [v1])⟩
    obtain ⟨X, hX⟩ := choose_pr (p := fun i x => w.cell? (a.add (i * 2)) = some (.int .i64 x.1) ∧ w.cell? (a.add (i * 2 + 1)) = some (.int .i64 x.2)) key
    have hlen : ((List.range len0).map X).length = len0 := by simp
    refine ⟨(List.range len0).map X, ⟨fm_len (m := 2) (fun _ => rfl) _, by omega, .inr ⟨a, cap0, by rw [hlen], by omega, fun j hj => ?_⟩⟩⟩
    · rw [hlen] at hj
      obtain ⟨q, hq, hj2⟩ : ∃ q, q < len0 ∧ (j = q * 2 ∨ j = q * 2 + 1) := ⟨j / 2, by omega, by omega⟩
      obtain ⟨g0, g1⟩ := pairC_get2 (ps := (List.range len0).map X) (i := q) (x := X q) (by simp [hq])
      obtain ⟨k0, k1⟩ := hX q hq
      rcases hj2 with rfl | rfl
      · exact k0.trans g0.symm
      · exact k1.trans g1.symm
end
end Go.Proofs.Ytkbnoceekileiaa
