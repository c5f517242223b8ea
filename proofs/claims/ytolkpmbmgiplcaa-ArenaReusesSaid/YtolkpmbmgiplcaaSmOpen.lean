/- A Small as a law's argument; the arena's Alloc and Look of none. No condition. -/
import Derived.Test.YtolkpmbmgiplcaaSmall
import Derived.Test.YtolkpmbmgiplcaaOpen
namespace Go.Proofs.Ytolkpmbmgiplcaa
open Go Go.RowKit
open Go.Joins Go.ChangeShapes Go.WideShapes Go.Deep
set_option linter.unusedVariables false
set_option linter.unusedSimpArgs false
section
variable {H : Type} {enc : TypeId × Value → H} {P : Program} {w : World} {base : Nat} {spare : Nat → Bool} {held : Bool}
theorem RdV_of_trod {t e : TypeId} {k : IntKind} {fuel : Nat} {v : Value} {y : DataW H × List MemPlace} (ht : P.underlying t = some (.slice e)) (he : P.underlying e = some (.int k)) (hc : P.cellsOf e = 1)
    (h : DataW.trod enc P w base spare held fuel t [v] = some y) : ∃ xs : List Int, RdV w v xs.length 1 (xs.map (Value.int k)) ∧ ∀ n ∈ xs, (Lit.int k n).wf = true := by
  rcases open_ints ht he hc h with ⟨hcs, _⟩ | ⟨a, len, cap, zs, hcs, _, hl, hm, hz, hx, hcell, hwz⟩
  · simp at hcs; subst hcs
    exact ⟨[], ⟨rfl, by simp, .inl ⟨rfl, rfl⟩⟩, by simp⟩
  · simp at hcs; subst hcs
    have hzl : len ≤ zs.length := by rw [hz]; split <;> omega
    have hlen : (zs.take len).length = len := by simp; omega
    refine ⟨zs.take len, ⟨by simp, by omega, .inr ⟨a, cap, by rw [hlen], by omega, fun j hj => ?_⟩⟩, fun n hn => hwz n (List.mem_of_mem_take hn)⟩
    have hj' : j < len := by omega
    rw [hcell j (by omega)]
    simp [List.getD, List.getElem?_take, hj', List.getElem?_eq_getElem (show j < zs.length by omega)]
theorem open_small {r : Reach} {b0 : Nat} {t e2 e3 : TypeId} {f0 f1 f2 f3 : Field} {v : Value} {d : DataW H} {p : List MemPlace} (hs : P.underlying t = some (.struct #[f0, f1, f2, f3])) (hone : oneCellFields P #[f0, f1, f2, f3] = true) (hC : P.cellsOf t = 4)
    (u0 : P.underlying f0.type = some .bool) (u1 : P.underlying f1.type = some .bool) (u2 : P.underlying f2.type = some (.slice e2)) (ue2 : P.underlying e2 = some (.int .i8)) (k2 : P.cellsOf e2 = 1) (u3 : P.underlying f3.type = some (.slice e3)) (ue3 : P.underlying e3 = some (.int .u8)) (k3 : P.cellsOf e3 = 1)
    (hv : Value.okWide P w r b0 t v) (h : DataW.Trod enc P w base spare held t v d p) :
    ∃ (s : Sm) (va vb : Value), v = .agg #[.bool s.inner, .bool s.tagged, va, vb] ∧ RdV w va s.keys.length 1 (s.keys.map (Value.int .i8)) ∧ RdV w vb s.ways.length 1 (s.ways.map (Value.int .u8)) ∧ (∀ x ∈ s.keys, -128 ≤ x ∧ x ≤ 127) ∧ (∀ x ∈ s.ways, 0 ≤ x ∧ x ≤ 255) := by
  obtain ⟨cs, rfl, hsz⟩ := okWide_struct hs hv
  obtain ⟨l⟩ := cs
  match l, hsz.trans hC with
  | [c0, c1, c2, c3], _ =>
    obtain ⟨fuel, hf⟩ := h
    obtain ⟨xs, n, _, hx, _, hlen, hg⟩ := DataW.trod_struct hs hf
    obtain ⟨o0, j0⟩ := hone_of hone 0 f0 rfl
    obtain ⟨o1, j1⟩ := hone_of hone 1 f1 rfl
    obtain ⟨o2, j2⟩ := hone_of hone 2 f2 rfl
    obtain ⟨o3, j3⟩ := hone_of hone 3 f3 rfl
    match xs, hlen with
    | [y0, y1, y2, y3], _ =>
      have g0 : DataW.trod enc P w base spare held n f0.type [c0] = some y0 := by simpa [Value.cells, o0, j0] using hg 0 f0 rfl
      have g1 : DataW.trod enc P w base spare held n f1.type [c1] = some y1 := by simpa [Value.cells, o1, j1] using hg 1 f1 rfl
      have g2 : DataW.trod enc P w base spare held n f2.type [c2] = some y2 := by simpa [Value.cells, o2, j2] using hg 2 f2 rfl
      have g3 : DataW.trod enc P w base spare held n f3.type [c3] = some y3 := by simpa [Value.cells, o3, j3] using hg 3 f3 rfl
      obtain ⟨x0, e0, _⟩ := DataW.trod_bool u0 g0
      obtain ⟨x1, e1, _⟩ := DataW.trod_bool u1 g1
      obtain ⟨ks, R2, w2⟩ := RdV_of_trod u2 ue2 k2 g2
      obtain ⟨ws, R3, w3⟩ := RdV_of_trod u3 ue3 k3 g3
      simp at e0 e1
      subst e0 e1
      exact ⟨⟨x0, x1, ks, ws⟩, c2, c3, rfl, R2, R3, fun x hx => bounds_i8 (w2 x hx), fun x hx => bounds_u8 (w3 x hx)⟩
end
theorem Alloc_nil (nd : Nd) (vp vk vn : Value) (w : World) : Calls Try.prog 12 #[.pointer none, ndV nd vp vk vn] w fun e w' => e = .returned (.tuple #[.int .i64 0, .bool false]) ∧ Fr nob w w' := by
  have F := Lib.hid ((Fr.refl nob w).alloc (.cells #[.bool nd.inner, .bool nd.tagged, vp, vk, vn] 36))
  unfold ndV
  go_enter Try.func12, Try.ntmps12
  go_wp2_with fail
  generalize w.alloc (.cells #[.bool nd.inner, .bool nd.tagged, vp, vk, vn] 36) = W1 at *
  go_quiet (fail)
  go_wp2_with fail
  go_ret2
  exact ⟨rfl, F.out.drewN _⟩
theorem Look_nil (r : Int) (w : World) : Calls Try.prog 18 #[.pointer none, .int .i64 r] w fun e w' => e = .returned (ndV noNd nilS nilS nilS) ∧ Fr nob w w' := by
  have h1 := (Heap.start w).alloc 36 #[.bool false, .bool false, nilS, nilS, nilS]
  generalize hR : w.heap.size = R at *
  have hb := h1.blk 0 rfl
  have C := Lib.hid (at_nil r (w.alloc (.cells #[.bool false, .bool false, nilS, nilS, nilS] 36)))
  unfold nilS at C h1
  have HH := Lib.hid h1
  clear h1 hb
  go_enter Try.func18, Try.ntmps18
  go_wp2_with (go_at_call 34; refine C.out.mono ?_; rintro e w' ⟨rfl, rfl⟩)
  have hb5 := HH.out.blk 0 rfl
  generalize w.alloc (.cells #[.bool false, .bool false, .slice none 0 0, .slice none 0 0, .slice none 0 0] 36) = W5 at *
  have e0 : W5.cell? ⟨R, 0, none⟩ = some (.bool false) := hb5.cell 0
  have e1 : W5.cell? ⟨R, 1, none⟩ = some (.bool false) := hb5.cell 1
  have e2 : W5.cell? ⟨R, 2, none⟩ = some (.slice none 0 0) := hb5.cell 2
  have e3 : W5.cell? ⟨R, 3, none⟩ = some (.slice none 0 0) := hb5.cell 3
  have e4 : W5.cell? ⟨R, 4, none⟩ = some (.slice none 0 0) := hb5.cell 4
  exact bodyPost_ret (v := ndV noNd nilS nilS nilS) (by simp [results, Try.results18, go_sem, ndV, noNd, nilS, e0, e1, e2, e3, e4]) rfl ⟨rfl, HH.out.fr⟩
end Go.Proofs.Ytolkpmbmgiplcaa
