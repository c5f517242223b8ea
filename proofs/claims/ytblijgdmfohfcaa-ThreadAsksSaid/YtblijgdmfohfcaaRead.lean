/- Slices that are handed in, opened: rows of cells that can be read (RdV), of whole numbers of any kind, of structs. No condition. -/
import Derived.Test.YtblijgdmfohfcaaOpen
namespace Go.Proofs.Ytblijgdmfohfcaa
open Go Go.RowKit
open Go.Joins Go.ChangeShapes Go.WideShapes Go.Deep
set_option linter.unusedVariables false
set_option linter.unusedSimpArgs false
/-- A slice of n elements of sz cells each that can be read: all its cells in a row. -/
def RdV (w : World) (v : Value) (n sz : Nat) (us : List Value) : Prop :=
  us.length = n * sz ∧ n ≤ maxLen ∧ ((v = .slice none 0 0 ∧ n = 0) ∨ ∃ a c, v = .slice (some a) n c ∧ n ≤ c ∧ ∀ j, j < n * sz → w.cell? (a.add j) = us[j]?)
theorem RdV.fr {S : Nat → Prop} {w w' : World} {v : Value} {n sz : Nat} {us : List Value} (h : RdV w v n sz us) (hf : Fr S w w') (hn : ∀ g, v.ownBlock = some g → g < w.heap.size → ¬ S g) : RdV w' v n sz us := by
  obtain ⟨h0, hm, h⟩ := h
  refine ⟨h0, hm, ?_⟩
  rcases h with h | ⟨a, c, rfl, h1, h3⟩
  · exact .inl h
  · refine .inr ⟨a, c, rfl, h1, fun j hj => ?_⟩
    have hb : (a.add j).block = a.block := by unfold Addr.add; split <;> rfl
    have hu : us[j]? = some (us[j]'(by omega)) := List.getElem?_eq_getElem (by omega)
    have h4 := h3 j hj
    rw [hu] at h4 ⊢
    exact hf.cell' h4 (by rw [hb]; exact hn a.block rfl (by have := cell_lt h4; rwa [hb] at this))
/-- The same, in a world in which only blocks changed that were made since w0. -/
theorem RdV.fr2 {S : Nat → Prop} {w0 w w' : World} {v : Value} {n sz : Nat} {us : List Value} (h0 : RdV w0 v n sz us) (h : RdV w v n sz us) (hsz : 0 < sz) (hf : Fr S w w') (hs : ∀ j, S j → w0.heap.size ≤ j) : RdV w' v n sz us := by
  by_cases hn : n = 0
  · subst hn
    obtain ⟨h1, hm, h2⟩ := h
    refine ⟨h1, hm, ?_⟩
    rcases h2 with h2 | ⟨a, c, rfl, h4, h3⟩
    · exact .inl h2
    · exact .inr ⟨a, c, rfl, h4, fun j hj => by simp at hj⟩
  · refine h.fr hf (fun g hg _ hx => ?_)
    obtain ⟨h1, _, h2⟩ := h0
    rcases h2 with ⟨rfl, _⟩ | ⟨a, c, rfl, h4, h3⟩
    · cases hg
    · simp only [Value.ownBlock, Option.some.injEq] at hg
      have h5 := h3 0 (Nat.mul_pos (by omega) hsz)
      rw [List.getElem?_eq_getElem (by rw [h1]; exact Nat.mul_pos (by omega) hsz)] at h5
      have := cell_lt h5
      have hb : (a.add 0).block = a.block := by unfold Addr.add; split <;> rfl
      have := hs _ hx
      omega
theorem RdV.len {w : World} {v : Value} {n sz : Nat} {us : List Value} (h : RdV w v n sz us) : ∃ a c, v = .slice a n c := by
  obtain ⟨h0, hm, h⟩ := h
  rcases h with ⟨rfl, rfl⟩ | ⟨a, c, rfl, _⟩
  · exact ⟨none, 0, rfl⟩
  · exact ⟨some a, c, rfl⟩
/-- The slice has an element: its address and its cells. -/
theorem RdV.at {w : World} {a : Option Addr} {n c sz : Nat} {us : List Value} (h : RdV w (.slice a n c) n sz us) (hn : 0 < n) : ∃ a', a = some a' ∧ n ≤ c ∧ ∀ j u, us[j]? = some u → w.cell? (a'.add j) = some u := by
  obtain ⟨h0, hm, h⟩ := h
  rcases h with ⟨_, rfl⟩ | ⟨a', c', h, h1, h3⟩
  · omega
  · simp only [Value.slice.injEq] at h
    obtain ⟨rfl, _, rfl⟩ := h
    exact ⟨a', rfl, h1, fun j u hu => by rw [h3 j (by have := (List.getElem?_eq_some_iff.1 hu).1; omega), hu]⟩
theorem RdV.short {w : World} {v : Value} {n sz : Nat} {us : List Value} (h : RdV w v n sz us) : n ≤ maxLen := h.2.1
section
variable {H : Type} {enc : TypeId × Value → H} {P : Program} {w : World} {base : Nat} {spare : Nat → Bool} {held : Bool}
/-- A slice of whole numbers of one kind. -/
theorem RdV_ints {r : Reach} {b0 : Nat} {t e : TypeId} {k : IntKind} {v : Value} {d : DataW H} {p : List MemPlace} (ht : P.underlying t = some (.slice e)) (he : P.underlying e = some (.int k)) (hc : P.cellsOf e = 1) (hv : Value.okWide P w r b0 t v)
    (h : DataW.Trod enc P w base spare held t v d p) : ∃ xs : List Int, RdV w v xs.length 1 (xs.map (Value.int k)) ∧ ∀ n ∈ xs, (Lit.int k n).wf = true := by
  obtain ⟨a0, len0, cap0, rfl⟩ := okWide_slice ht hv
  obtain ⟨fuel, hf⟩ := h
  rcases open_ints ht he hc hf with ⟨hcs, _⟩ | ⟨a, len, cap, zs, hcs, _, hl, hm, hz, hx, hcell, hwz⟩
  · simp [Value.cells] at hcs
    obtain ⟨rfl, rfl, rfl⟩ := hcs
    exact ⟨[], ⟨rfl, by simp, .inl ⟨rfl, rfl⟩⟩, by simp⟩
  · simp [Value.cells] at hcs
    obtain ⟨rfl, rfl, rfl⟩ := hcs
    have hzl : len0 ≤ zs.length := by rw [hz]; split <;> omega
    have hlen : (zs.take len0).length = len0 := by simp; omega
    refine ⟨zs.take len0, ⟨by simp, by omega, .inr ⟨a, cap0, by rw [hlen], by omega, fun j hj => ?_⟩⟩, fun n hn => hwz n (List.mem_of_mem_take hn)⟩
    have hj' : j < len0 := by omega
    rw [hcell j (by omega)]
    simp [List.getD, List.getElem?_take, hj', List.getElem?_eq_getElem (show j < zs.length by omega)]
theorem open_slice_fields {t e : TypeId} {fs : Array Field} {fuel : Nat} {cs : List Value} {x : DataW H × List MemPlace} (ht : P.underlying t = some (.slice e)) (he : P.underlying e = some (.struct fs))
    (hone : oneCellFields P fs = true) (hC : P.cellsOf e = fs.size) (h : DataW.trod enc P w base spare held fuel t cs = some x) :
    (cs = [.slice none 0 0] ∧ x = (.nil, [])) ∨
    ∃ (a : Addr) (len cap : Nat) (V : Nat → Nat → Value), cs = [.slice (some a) len cap] ∧ len ≤ cap ∧ cap ≤ maxLen ∧
      ∀ i, i < len → ∀ (j : Nat) (f : Field), fs[j]? = some f → ∃ (n : Nat) (y : DataW H × List MemPlace), w.cell? (a.add (i * fs.size + j)) = some (V i j) ∧ DataW.trod enc P w base spare held n f.type [V i j] = some y := by
  rcases open_slice ht h with h0 | ⟨a, len, cap, m, n, D, Pl, hcs, hb, hl, hm, hmm, hx, hi⟩
  · exact .inl h0
  · refine .inr ⟨a, len, cap, fun i j => (w.cell? (a.add (i * fs.size + j))).getD (.bool false), hcs, hl, hm, fun i hil j f hj => ?_⟩
    obtain ⟨cs', hc, ht'⟩ := hi i (by rw [hmm]; split <;> omega)
    rw [hC] at hc
    obtain ⟨ys, n', hn', hy, hlen, hyl, hf⟩ := DataW.trod_struct he ht'
    obtain ⟨_, hcl, hat⟩ := World.cells?_some hc
    obtain ⟨ho, hk⟩ := hone_of hone j f hj
    have hjl : j < fs.size := (Array.getElem?_eq_some_iff.1 hj).1
    have hcell := hat j hjl
    have hv : cs'[j]? = some (cs'[j]'(by omega)) := List.getElem?_eq_getElem (by omega)
    have h1 := hf j f hj
    rw [ho, hk] at h1
    have hone' : (cs'.drop j).take 1 = [cs'[j]'(by omega)] := by
      rw [List.drop_eq_getElem_cons (by omega)]
      rfl
    rw [hone'] at h1
    have hys : ys[j]? = some (ys[j]'(by omega)) := List.getElem?_eq_getElem (by omega)
    have hcv : w.cell? (a.add (i * fs.size + j)) = some (cs'[j]'(by omega)) := by rw [← Go.Deep.add_add, hcell, hv]
    refine ⟨n', ys[j]'(by omega), ?_, ?_⟩
    · simp only [hcv, Option.getD_some]
    · simp only [hcv, Option.getD_some]
      exact h1.trans hys
end
end Go.Proofs.Ytblijgdmfohfcaa
