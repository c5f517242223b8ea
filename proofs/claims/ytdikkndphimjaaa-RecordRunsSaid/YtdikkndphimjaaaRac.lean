/- A slice of calls, each with a record, that is handed in, opened. No condition. -/
import Derived.Test.YtdikkndphimjaaaRows
import Derived.Test.YtdikkndphimjaaaK1
namespace Go.Proofs.Ytdikkndphimjaaa
open Go Go.RowKit
open Go.Joins Go.ChangeShapes Go.WideShapes Go.Deep
set_option linter.unusedVariables false
set_option linter.unusedSimpArgs false
/-- A call. -/
structure RAct where
  d : Int
  o : Int
  raw : Int
  st : Int
  vn : Value
  vi : Value
  nodes : List Int
  infos : List Int
  keep : Int
  way : Int
  old : Int
  new : Int
def ractC (a : RAct) : List Value := [.int .u8 a.d, .int .i8 a.o, .int .i64 a.raw, .int .u8 a.st, a.vn, a.vi, .int .i64 a.keep, .int .i64 a.way, .int .i64 a.old, .int .i64 a.new]
structure RAct.ok (w : World) (a : RAct) : Prop where
  d0 : 0 ≤ a.d ∧ a.d ≤ 255
  o0 : -128 ≤ a.o ∧ a.o ≤ 127
  s0 : 0 ≤ a.st ∧ a.st ≤ 255
  rn : RdV w a.vn a.nodes.length 1 (intC a.nodes)
  ri : RdV w a.vi a.infos.length 1 (intC a.infos)
theorem ractC_len (a : RAct) : (ractC a).length = 10 := rfl
theorem racts_len (l : List RAct) : (l.flatMap ractC).length = l.length * 10 := by
  induction l with
  | nil => rfl
  | cons a l ih => rw [List.flatMap_cons, List.length_append, ih, ractC_len, List.length_cons]; omega
theorem racts_get : ∀ (l : List RAct) (i j : Nat) (x : RAct), l[i]? = some x → j < 10 → (l.flatMap ractC)[i * 10 + j]? = (ractC x)[j]?
  | [], i, j, x, h, _ => by simp at h
  | a :: l, 0, j, x, h, hj => by
    simp at h
    subst h
    rw [List.flatMap_cons, List.getElem?_append_left (by rw [ractC_len]; omega)]
    congr 1; omega
  | a :: l, i + 1, j, x, h, hj => by
    rw [List.flatMap_cons, List.getElem?_append_right (by rw [ractC_len]; omega), ractC_len, show (i + 1) * 10 + j - 10 = i * 10 + j by omega]
    exact racts_get l i j x (by simpa using h) hj
theorem choose_ract {p : Nat → RAct → Prop} {n : Nat} (h : ∀ i, i < n → ∃ x, p i x) : ∃ X : Nat → RAct, ∀ i, i < n → p i (X i) := by
  classical
  exact ⟨fun i => if hi : i < n then Classical.choose (h i hi) else ⟨0, 0, 0, 0, .bool false, .bool false, [], [], 0, 0, 0, 0⟩, fun i hi => by simp only [hi, dif_pos]; exact Classical.choose_spec (h i hi)⟩
section
variable {H : Type} {enc : TypeId × Value → H} {P : Program} {w : World} {base : Nat} {spare : Nat → Bool} {held : Bool}
theorem RdV_of_ints {t e : TypeId} {k : IntKind} {fuel : Nat} {v : Value} {y : DataW H × List MemPlace} (ht : P.underlying t = some (.slice e)) (he : P.underlying e = some (.int k)) (hc : P.cellsOf e = 1)
    (h : DataW.trod enc P w base spare held fuel t [v] = some y) : ∃ xs : List Int, RdV w v xs.length 1 (xs.map (Value.int k)) ∧ ∀ n ∈ xs, (Lit.int k n).wf = true := by
  rcases open_ints ht he hc h with ⟨hcs, _⟩ | ⟨a, len, cap, zs, hcs, _, hl, hm, hz, hx, hcell, hwz⟩
  · simp at hcs; subst hcs
    exact ⟨[], ⟨rfl, by simp, .inl ⟨rfl, rfl⟩⟩, by simp⟩
  · simp at hcs; subst hcs
    have hzl : len ≤ zs.length := by rw [hz]; split <;> omega
    have hlen : (zs.take len).length = len := by simp; omega
    refine ⟨zs.take len, ⟨by simp, by omega, .inr ⟨a, cap, by rw [hlen], by omega, fun j hj => ?_⟩⟩, fun n hn => hwz n (List.mem_of_mem_take hn)⟩
    have hj' : j < len := by omega
    rw [hcell j (by omega)]
    simp [List.getD, List.getElem?_take, hj', List.getElem?_eq_getElem (show j < zs.length by omega)]
theorem RdV_racts {r : Reach} {b0 : Nat} {t e s0 s1 : TypeId} {f0 f1 f2 f3 f4 g0 g1 g2 g3 g4 g5 : Field} {v : Value} {d : DataW H} {p : List MemPlace} (ht : P.underlying t = some (.slice e)) (he : P.underlying e = some (.struct #[f0, f1, f2, f3, f4])) (hC : P.cellsOf e = 10)
    (ho : [f0.offset, f1.offset, f2.offset, f3.offset, f4.offset] = [0, 1, 2, 3, 4]) (hk : [P.cellsOf f0.type, P.cellsOf f1.type, P.cellsOf f2.type, P.cellsOf f3.type, P.cellsOf f4.type] = [1, 1, 1, 1, 6])
    (e0 : P.underlying f0.type = some (.int .u8)) (e1 : P.underlying f1.type = some (.int .i8)) (e2 : P.underlying f2.type = some (.int .i64)) (e3 : P.underlying f3.type = some (.int .u8)) (e4 : P.underlying f4.type = some (.struct #[g0, g1, g2, g3, g4, g5])) (hone : oneCellFields P #[g0, g1, g2, g3, g4, g5] = true)
    (u0 : P.underlying g0.type = some (.slice s0)) (v0 : P.underlying s0 = some (.int .i64)) (k0 : P.cellsOf s0 = 1) (u1 : P.underlying g1.type = some (.slice s1)) (v1 : P.underlying s1 = some (.int .i64)) (k1 : P.cellsOf s1 = 1)
    (u2 : P.underlying g2.type = some (.int .i64)) (u3 : P.underlying g3.type = some (.int .i64)) (u4 : P.underlying g4.type = some (.int .i64)) (u5 : P.underlying g5.type = some (.int .i64))
    (hv : Value.okWide P w r b0 t v) (h : DataW.Trod enc P w base spare held t v d p) : ∃ xs : List RAct, RdV w v xs.length 10 (xs.flatMap ractC) ∧ ∀ x ∈ xs, x.ok w := by
  obtain ⟨a0, len0, cap0, rfl⟩ := okWide_slice ht hv
  obtain ⟨fuel, hf⟩ := h
  simp only [List.cons.injEq, and_true] at ho hk
  obtain ⟨o0, o1, o2, o3, o4⟩ := ho
  obtain ⟨c0, c1, c2, c3, c4⟩ := hk
  rcases open_slice ht hf with ⟨hcs, _⟩ | ⟨a, len, cap, m, n, D, Pl, hcs, hb, hl, hm, hmm, hx, hi⟩
  · simp [Value.cells] at hcs
    obtain ⟨rfl, rfl, rfl⟩ := hcs
    exact ⟨[], ⟨rfl, by simp, .inl ⟨rfl, rfl⟩⟩, by simp⟩
  · simp [Value.cells] at hcs
    obtain ⟨rfl, rfl, rfl⟩ := hcs
    have key : ∀ i, i < len0 → ∃ x : RAct, x.ok w ∧ ∀ j, j < 10 → w.cell? (a.add (i * 10 + j)) = (ractC x)[j]? := fun i hil => by
      obtain ⟨cs', hc, ht'⟩ := hi i (by rw [hmm]; split <;> omega)
      rw [hC] at hc
      obtain ⟨ys, n', hn', hy, hlen, hyl, hfd⟩ := DataW.trod_struct he ht'
      obtain ⟨_, hcl, hat⟩ := World.cells?_some hc
      match cs', hlen.trans hC with
      | [x0, x1, x2, x3, x4, x5, x6, x7, x8, x9], _ =>
        match ys, hyl with
        | [y0, y1, y2, y3, y4], _ =>
          have t0 : DataW.trod enc P w base spare held n' f0.type [x0] = some y0 := by simpa [o0, c0] using hfd 0 f0 rfl
          have t1 : DataW.trod enc P w base spare held n' f1.type [x1] = some y1 := by simpa [o1, c1] using hfd 1 f1 rfl
          have t2 : DataW.trod enc P w base spare held n' f2.type [x2] = some y2 := by simpa [o2, c2] using hfd 2 f2 rfl
          have t3 : DataW.trod enc P w base spare held n' f3.type [x3] = some y3 := by simpa [o3, c3] using hfd 3 f3 rfl
          have t4 : DataW.trod enc P w base spare held n' f4.type [x4, x5, x6, x7, x8, x9] = some y4 := by simpa [o4, c4] using hfd 4 f4 rfl
          obtain ⟨zs, n2, hn2, hz, hzl, hzs, hgd⟩ := DataW.trod_struct e4 t4
          obtain ⟨p0, q0⟩ := hone_of hone 0 g0 rfl
          obtain ⟨p1, q1⟩ := hone_of hone 1 g1 rfl
          obtain ⟨p2, q2⟩ := hone_of hone 2 g2 rfl
          obtain ⟨p3, q3⟩ := hone_of hone 3 g3 rfl
          obtain ⟨p4, q4⟩ := hone_of hone 4 g4 rfl
          obtain ⟨p5, q5⟩ := hone_of hone 5 g5 rfl
          match zs, hzs with
          | [z0, z1, z2, z3, z4, z5], _ =>
            have s0 : DataW.trod enc P w base spare held n2 g0.type [x4] = some z0 := by simpa [p0, q0] using hgd 0 g0 rfl
            have s1 : DataW.trod enc P w base spare held n2 g1.type [x5] = some z1 := by simpa [p1, q1] using hgd 1 g1 rfl
            have s2 : DataW.trod enc P w base spare held n2 g2.type [x6] = some z2 := by simpa [p2, q2] using hgd 2 g2 rfl
            have s3 : DataW.trod enc P w base spare held n2 g3.type [x7] = some z3 := by simpa [p3, q3] using hgd 3 g3 rfl
            have s4 : DataW.trod enc P w base spare held n2 g4.type [x8] = some z4 := by simpa [p4, q4] using hgd 4 g4 rfl
            have s5 : DataW.trod enc P w base spare held n2 g5.type [x9] = some z5 := by simpa [p5, q5] using hgd 5 g5 rfl
            obtain ⟨i0, rfl, w0⟩ := int_of_trod e0 t0
            obtain ⟨i1, rfl, w1⟩ := int_of_trod e1 t1
            obtain ⟨i2, rfl, w2⟩ := int_of_trod e2 t2
            obtain ⟨i3, rfl, w3⟩ := int_of_trod e3 t3
            obtain ⟨ns, R0, _⟩ := RdV_of_ints u0 v0 k0 s0
            obtain ⟨is, R1, _⟩ := RdV_of_ints u1 v1 k1 s1
            obtain ⟨i6, rfl, _⟩ := int_of_trod u2 s2
            obtain ⟨i7, rfl, _⟩ := int_of_trod u3 s3
            obtain ⟨i8, rfl, _⟩ := int_of_trod u4 s4
            obtain ⟨i9, rfl, _⟩ := int_of_trod u5 s5
            refine ⟨⟨i0, i1, i2, i3, x4, x5, ns, is, i6, i7, i8, i9⟩, ⟨bounds_u8 w0, bounds_i8 w1, bounds_u8 w3, R0, R1⟩, fun j hj => ?_⟩
            have := hat j hj
            rw [Go.Deep.add_add] at this
            exact this
    obtain ⟨X, hX⟩ := choose_ract (p := fun i x => x.ok w ∧ ∀ j, j < 10 → w.cell? (a.add (i * 10 + j)) = (ractC x)[j]?) key
    have hlen : ((List.range len0).map X).length = len0 := by simp
    refine ⟨(List.range len0).map X, ⟨racts_len _, by omega, .inr ⟨a, cap0, by rw [hlen], by omega, fun j hj => ?_⟩⟩, fun x hx => ?_⟩
    · rw [hlen] at hj
      obtain ⟨q, r, hq, hr, hj2⟩ : ∃ q r, q < len0 ∧ r < 10 ∧ j = q * 10 + r := ⟨j / 10, j % 10, by omega, by omega, by omega⟩
      subst hj2
      rw [racts_get _ q r (X q) (by simp [hq]) hr]
      exact (hX q hq).2 r hr
    · simp only [List.mem_map, List.mem_range] at hx
      obtain ⟨i, hi, rfl⟩ := hx
      exact (hX i hi).1
end
end Go.Proofs.Ytdikkndphimjaaa
