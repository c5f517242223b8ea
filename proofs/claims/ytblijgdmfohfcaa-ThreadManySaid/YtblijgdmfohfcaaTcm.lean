/- A slice of slices of touches that is handed in, opened. No condition. -/
import Derived.Test.YtblijgdmfohfcaaTcs
namespace Go.Proofs.Ytblijgdmfohfcaa
open Go Go.RowKit
open Go.Joins Go.ChangeShapes Go.WideShapes Go.Deep
set_option linter.unusedVariables false
set_option linter.unusedSimpArgs false
/-- A slice of touches, and what it holds. -/
structure Pg where
  v : Value
  ps : List Tc
def Pg.ok (w : World) (p : Pg) : Prop := RdV w p.v p.ps.length 2 (tcC p.ps) ∧ ∀ x ∈ p.ps, x.ok
theorem choose_pg {p : Nat → Pg → Prop} {n : Nat} (h : ∀ i, i < n → ∃ x, p i x) : ∃ X : Nat → Pg, ∀ i, i < n → p i (X i) := by
  classical
  exact ⟨fun i => if hi : i < n then Classical.choose (h i hi) else ⟨.bool false, []⟩, fun i hi => by simp only [hi, dif_pos]; exact Classical.choose_spec (h i hi)⟩
section
variable {H : Type} {enc : TypeId × Value → H} {P : Program} {w : World} {base : Nat} {spare : Nat → Bool} {held : Bool}
theorem RdV_touches_trod {t e : TypeId} {f0 f1 : Field} {v : Value} {fuel : Nat} {y : DataW H × List MemPlace} (ht : P.underlying t = some (.slice e)) (he : P.underlying e = some (.struct #[f0, f1])) (hone : oneCellFields P #[f0, f1] = true) (hC : P.cellsOf e = 2)
    (e0 : P.underlying f0.type = some (.int .u8)) (e1 : P.underlying f1.type = some (.int .i8))
    (hf : DataW.trod enc P w base spare held fuel t [v] = some y) : ∃ xs : List Tc, RdV w v xs.length 2 (tcC xs) ∧ ∀ x ∈ xs, x.ok := by
  rcases open_slice_fields ht he hone hC hf with ⟨hcs, _⟩ | ⟨a, len, cap, V, hcs, hl, hm, hV⟩
  · simp at hcs
    subst hcs
    exact ⟨[], ⟨rfl, by simp, .inl ⟨rfl, rfl⟩⟩, by simp⟩
  · simp at hcs
    subst hcs
    have key : ∀ i, i < len → ∃ x : Tc, x.ok ∧ w.cell? (a.add (i * 2)) = some (.int .u8 x.d) ∧ w.cell? (a.add (i * 2 + 1)) = some (.int .i8 x.k) := fun i hi => by
      obtain ⟨m0, y0, c0, t0⟩ := hV i hi 0 f0 rfl
      obtain ⟨m1, y1, c1, t1⟩ := hV i hi 1 f1 rfl
      obtain ⟨z0, v0, w0⟩ := int_of_trod e0 t0
      obtain ⟨z1, v1, w1⟩ := int_of_trod e1 t1
      exact ⟨⟨z0, z1⟩, ⟨bounds_u8 w0, bounds_i8 w1⟩, c0.trans (by rw [v0]), c1.trans (by rw [v1])⟩
    obtain ⟨X, hX⟩ := choose_tc (p := fun i x => x.ok ∧ w.cell? (a.add (i * 2)) = some (.int .u8 x.d) ∧ w.cell? (a.add (i * 2 + 1)) = some (.int .i8 x.k)) key
    have hlen : ((List.range len).map X).length = len := by simp
    refine ⟨(List.range len).map X, ⟨tcC_length _, by omega, .inr ⟨a, cap, by rw [hlen], by omega, fun j hj => ?_⟩⟩, fun x hx => ?_⟩
    · rw [hlen] at hj
      obtain ⟨q, hq, hj2⟩ : ∃ q, q < len ∧ (j = q * 2 ∨ j = q * 2 + 1) := ⟨j / 2, by omega, by omega⟩
      obtain ⟨g0, g1⟩ := tcC_get ((List.range len).map X) q (X q) (by simp [hq])
      obtain ⟨_, k0, k1⟩ := hX q hq
      rcases hj2 with rfl | rfl
      · exact k0.trans g0.symm
      · exact k1.trans g1.symm
    · simp only [List.mem_map, List.mem_range] at hx
      obtain ⟨i, hi, rfl⟩ := hx
      exact (hX i hi).1
theorem RdV_progs {r : Reach} {b0 : Nat} {t u e : TypeId} {f0 f1 : Field} {v : Value} {d : DataW H} {p : List MemPlace} (hu : P.underlying t = some (.slice u)) (hcu : P.cellsOf u = 1) (ht : P.underlying u = some (.slice e)) (he : P.underlying e = some (.struct #[f0, f1])) (hone : oneCellFields P #[f0, f1] = true) (hC : P.cellsOf e = 2)
    (e0 : P.underlying f0.type = some (.int .u8)) (e1 : P.underlying f1.type = some (.int .i8))
    (hv : Value.okWide P w r b0 t v) (h : DataW.Trod enc P w base spare held t v d p) : ∃ xs : List Pg, RdV w v xs.length 1 (xs.map Pg.v) ∧ ∀ x ∈ xs, x.ok w := by
  obtain ⟨a0, len0, cap0, rfl⟩ := okWide_slice hu hv
  obtain ⟨fuel, hf⟩ := h
  rcases open_slice1 hu hcu hf with ⟨hcs, _⟩ | ⟨a, len, cap, m, n, V, D, Pl, hcs, hb, hl, hm, hmm, _, hx⟩
  · simp [Value.cells] at hcs
    obtain ⟨rfl, rfl, rfl⟩ := hcs
    exact ⟨[], ⟨rfl, by simp, .inl ⟨rfl, rfl⟩⟩, by simp⟩
  · simp [Value.cells] at hcs
    obtain ⟨rfl, rfl, rfl⟩ := hcs
    have hlm : len0 ≤ m := by rw [hmm]; split <;> omega
    obtain ⟨X, hX⟩ := choose_pg (n := len0) (p := fun i q => V i = q.v ∧ q.ok w) (fun i hi => by
      obtain ⟨xs, h1, h2⟩ := RdV_touches_trod ht he hone hC e0 e1 (hx i (by omega)).2
      exact ⟨⟨V i, xs⟩, rfl, h1, h2⟩)
    have hlen : ((List.range len0).map X).length = len0 := by simp
    refine ⟨(List.range len0).map X, ⟨by simp, by omega, .inr ⟨a, cap0, by rw [hlen], by omega, fun j hj => ?_⟩⟩, fun x hx => ?_⟩
    · have hj' : j < len0 := by rw [hlen] at hj; omega
      rw [(hx j (by omega)).1, (hX j hj').1]
      simp [hj']
    · simp only [List.mem_map, List.mem_range] at hx
      obtain ⟨i, hi, rfl⟩ := hx
      exact (hX i hi).2
end
end Go.Proofs.Ytblijgdmfohfcaa
