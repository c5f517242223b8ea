/- The law's acts, opened. No condition. -/
import Derived.Test.YtnoioldbddjkiaaEpoJ
namespace Go.Proofs.Ytnoioldbddjkiaa
open Go Go.RowKit
open Go.Joins Go.ChangeShapes Go.WideShapes Go.Deep
set_option linter.unusedVariables false
set_option linter.unusedSimpArgs false
theorem flat_len {α β : Type} (f : α → List β) (c : Nat) (h : ∀ a, (f a).length = c) (l : List α) : (l.flatMap f).length = l.length * c := by
  induction l with
  | nil => simp
  | cons a l ih => rw [List.flatMap_cons, List.length_append, h, ih, List.length_cons, Nat.succ_mul, Nat.add_comm]
theorem flat_get {α β : Type} (f : α → List β) (c : Nat) (h : ∀ a, (f a).length = c) : ∀ (l : List α) (i j : Nat) (a : α), l[i]? = some a → j < c → (l.flatMap f)[i * c + j]? = (f a)[j]?
  | [], i, j, a, ha, _ => by simp at ha
  | x :: l, 0, j, a, ha, hj => by
    simp only [List.getElem?_cons_zero, Option.some.injEq] at ha
    subst ha
    rw [List.flatMap_cons, Nat.zero_mul, Nat.zero_add, List.getElem?_append_left (by rw [h]; exact hj)]
  | x :: l, i + 1, j, a, ha, hj => by
    simp only [List.getElem?_cons_succ] at ha
    rw [List.flatMap_cons, List.getElem?_append_right (by rw [h, Nat.succ_mul]; omega), h, show (i + 1) * c + j - c = i * c + j from by rw [Nat.succ_mul]; omega]
    exact flat_get f c h l i j a ha hj
/-- An act: which call, of which thread, two numbers. -/
structure Actn where
  d : Int
  on : Int
  n : Int
  a : Int
deriving Inhabited
def actC (x : Actn) : List Value := [.int .u8 x.d, .int .i8 x.on, .int .i64 x.n, .int .i64 x.a]
def Actn.ok (x : Actn) : Prop := (0 ≤ x.d ∧ x.d ≤ 255) ∧ (-128 ≤ x.on ∧ x.on ≤ 127) ∧ (-9223372036854775808 ≤ x.n ∧ x.n ≤ 9223372036854775807) ∧ (-9223372036854775808 ≤ x.a ∧ x.a ≤ 9223372036854775807)
section
variable {H : Type} {enc : TypeId × Value → H} {P : Program} {w : World} {base : Nat} {spare : Nat → Bool} {held : Bool}
theorem RdV_acts {r : Reach} {b0 : Nat} {t e : TypeId} {f0 f1 f2 f3 : Field} {v : Value} {d : DataW H} {p : List MemPlace} (ht : P.underlying t = some (.slice e)) (he : P.underlying e = some (.struct #[f0, f1, f2, f3])) (hone : oneCellFields P #[f0, f1, f2, f3] = true) (hC : P.cellsOf e = 4)
    (e0 : P.underlying f0.type = some (.int .u8)) (e1 : P.underlying f1.type = some (.int .i8)) (e2 : P.underlying f2.type = some (.int .i64)) (e3 : P.underlying f3.type = some (.int .i64))
    (hv : Value.okWide P w r b0 t v) (h : DataW.Trod enc P w base spare held t v d p) : ∃ xs : List Actn, RdV w v xs.length 4 (xs.flatMap actC) ∧ ∀ x ∈ xs, x.ok := by
  obtain ⟨a0, len0, cap0, rfl⟩ := okWide_slice ht hv
  obtain ⟨fuel, hf⟩ := h
  rcases open_slice_fields ht he hone hC hf with ⟨hcs, _⟩ | ⟨a, len, cap, V, hcs, hl, hm, hV⟩
  · simp [Value.cells] at hcs
    obtain ⟨rfl, rfl, rfl⟩ := hcs
    exact ⟨[], ⟨rfl, by simp, .inl ⟨rfl, rfl⟩⟩, by simp⟩
  · simp [Value.cells] at hcs
    obtain ⟨rfl, rfl, rfl⟩ := hcs
    have key : ∀ i, i < len0 → ∃ x : Actn, x.ok ∧ ∀ j, j < 4 → w.cell? (a.add (i * 4 + j)) = (actC x)[j]? := fun i hi => by
      obtain ⟨m0, y0, c0, t0⟩ := hV i hi 0 f0 rfl
      obtain ⟨m1, y1, c1, t1⟩ := hV i hi 1 f1 rfl
      obtain ⟨m2, y2, c2, t2⟩ := hV i hi 2 f2 rfl
      obtain ⟨m3, y3, c3, t3⟩ := hV i hi 3 f3 rfl
      obtain ⟨z0, v0, w0⟩ := int_of_trod e0 t0
      obtain ⟨z1, v1, w1⟩ := int_of_trod e1 t1
      obtain ⟨z2, v2, w2⟩ := int_of_trod e2 t2
      obtain ⟨z3, v3, w3⟩ := int_of_trod e3 t3
      refine ⟨⟨z0, z1, z2, z3⟩, ⟨bounds_u8 w0, bounds_i8 w1, bounds_i64 w2, bounds_i64 w3⟩, fun j hj => ?_⟩
      rcases (by omega : j = 0 ∨ j = 1 ∨ j = 2 ∨ j = 3) with rfl | rfl | rfl | rfl
      · exact c0.trans (by rw [v0]; rfl)
      · exact c1.trans (by rw [v1]; rfl)
      · exact c2.trans (by rw [v2]; rfl)
      · exact c3.trans (by rw [v3]; rfl)
    obtain ⟨X, hX⟩ := choose_lt (α := Actn) (p := fun i x => x.ok ∧ ∀ j, j < 4 → w.cell? (a.add (i * 4 + j)) = (actC x)[j]?) key
    have hlen : ((List.range len0).map X).length = len0 := by simp
    refine ⟨(List.range len0).map X, ⟨flat_len actC 4 (fun _ => rfl) _, by omega, .inr ⟨a, cap0, by rw [hlen], by omega, fun j hj => ?_⟩⟩, fun x hx => ?_⟩
    · rw [hlen] at hj
      have hq : j / 4 < len0 := by omega
      have := flat_get actC 4 (fun _ => rfl) ((List.range len0).map X) (j / 4) (j % 4) (X (j / 4)) (by simp [hq]) (by omega)
      rw [show j / 4 * 4 + j % 4 = j from by omega] at this
      rw [this, ← (hX (j / 4) hq).2 (j % 4) (by omega), show j / 4 * 4 + j % 4 = j from by omega]
    · simp only [List.mem_map, List.mem_range] at hx
      obtain ⟨i, hi, rfl⟩ := hx
      exact (hX i hi).1
end
end Go.Proofs.Ytnoioldbddjkiaa
