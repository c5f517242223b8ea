/- ArenaFaults: the plain law: an arena of nodes that were never freed; the opener of a list of Smalls. No condition. -/
import Derived.Test.YtolkpmbmgiplcaaSmOpen
import Derived.Test.YtolkpmbmgiplcaaAreP
namespace Go.Proofs.Ytolkpmbmgiplcaa
open Go Go.RowKit
open Go.Joins Go.ChangeShapes Go.WideShapes Go.Deep
set_option linter.unusedVariables false
set_option linter.unusedSimpArgs false
def flSl (nd : Nd) : Sl := ⟨nd, nd.ways, 0, false, 1, true⟩
/-- An arena of nodes, each in a place of its own. -/
def flAr (nds : List Nd) (f : Int) : Ar := ⟨nds.map flSl, [], 20, nds.length, f⟩
theorem fl_new0 : newAr 20 = flAr [] 0 := by rfl
theorem fl_new (nds : List Nd) (nd : Nd) (h : nds.length < 20) : allocAr nd (flAr nds 0) = ((refOf nds.length 1, true), flAr (nds ++ [nd]) 0) := by
  unfold allocAr
  rw [if_neg (by simp [flAr]; omega)]
  simp [flAr, prepAr, Ar.at, Ar.put, newSl, noSl, flSl, List.getD]
theorem fl_get (nds : List Nd) (f : Int) (k : Nat) (h : k < nds.length) : (flAr nds f).at k = flSl (nds[k]) := by
  simp [flAr, Ar.at, List.getD, List.getElem?_eq_getElem h]
theorem fl_at (nds : List Nd) (f : Int) (k : Nat) (h : k < nds.length) (h20 : nds.length ≤ 20) : arAt (flAr nds f) (refOf k 1) = some k := by
  have hp : (refOf (k : Int) 1) % 1099511627776 - 1 = (k : Int) := by unfold refOf; omega
  unfold arAt
  simp only [hp]
  have hg : (flAr nds f).slots.getD k default = flSl (nds[k]) := fl_get nds f k h
  rw [Int.toNat_natCast, hg, if_pos ⟨by omega, by simp [flAr]; omega, rfl, rfl⟩]
theorem fl_none (nds : List Nd) (f r : Int) (h : ∀ k : Nat, k < nds.length → refOf k 1 ≠ r) : arAt (flAr nds f) r = none := by
  unfold arAt
  dsimp only
  split
  · rename_i hh
    obtain ⟨h1, h2, h3, h4⟩ := hh
    have hk : (r % 1099511627776 - 1).toNat < nds.length := by simp [flAr] at h2; omega
    have hg : (flAr nds f).slots.getD (r % 1099511627776 - 1).toNat default = flSl (nds[(r % 1099511627776 - 1).toNat]) := fl_get nds f _ hk
    rw [hg] at h4
    refine absurd ?_ (h _ hk)
    rw [Int.toNat_of_nonneg h1]
    exact h4
  · rfl
theorem fl_ok (nds : List Nd) (f : Int) (h : nds.length ≤ 20) (hf : 0 ≤ f ∧ f ≤ 20) (hnd : ∀ nd ∈ nds, nd.few) : OkN (flAr nds f) 20 := by
  refine ⟨by simp [flAr], by simp [flAr]; omega, by simp [flAr]; omega, fun s hs => ?_, by simp [flAr]; omega, fun i hi => by simp [flAr] at hi, by simp [flAr]⟩
  simp only [flAr, List.mem_map] at hs
  obtain ⟨nd, hn, rfl⟩ := hs
  exact ⟨by simp [flSl], hnd nd hn⟩
theorem fl_fault (nds : List Nd) (f : Int) : (flAr nds f).fault = flAr nds (f + 1) := rfl
section
variable (nds : List Nd) (f r : Int) (h : arAt (flAr nds f) r = none)
include h
theorem fl_free : freeAr r (flAr nds f) = (false, flAr nds (f + 1)) := by unfold freeAr; rw [h]; rfl
theorem fl_look : lookAr r (flAr nds f) = (noNd, flAr nds (f + 1)) := by unfold lookAr; rw [h]; rfl
theorem fl_way (i : Int) : wayAr r i (flAr nds f) = (0, flAr nds (f + 1)) := by unfold wayAr; rw [h]; rfl
theorem fl_swapWay (i x y : Int) : swapWayAr r i x y (flAr nds f) = (false, flAr nds (f + 1)) := by unfold swapWayAr; rw [h]; rfl
theorem fl_info : infoAr r (flAr nds f) = (0, flAr nds (f + 1)) := by unfold infoAr; rw [h]; rfl
theorem fl_swapInfo (x y : Int) : swapInfoAr r x y (flAr nds f) = (false, flAr nds (f + 1)) := by unfold swapInfoAr; rw [h]; rfl
theorem fl_mark : markAr r (flAr nds f) = (false, flAr nds (f + 1)) := by unfold markAr; rw [h]; rfl
theorem fl_setMark : setMarkAr r (flAr nds f) = flAr nds (f + 1) := by unfold setMarkAr; rw [h]; rfl
end
section
variable (nds : List Nd) (f : Int) (k : Nat) (h : k < nds.length) (h20 : nds.length ≤ 20)
include h h20
theorem fl_markAt : markAr (refOf k 1) (flAr nds f) = (false, flAr nds f) := by
  unfold markAr
  rw [fl_at nds f k h h20]
  simp only [fl_get nds f k h]; rfl
theorem fl_infoAt : infoAr (refOf k 1) (flAr nds f) = (0, flAr nds f) := by
  unfold infoAr
  rw [fl_at nds f k h h20]
  simp only [fl_get nds f k h]; rfl
theorem fl_lookAt : lookAr (refOf k 1) (flAr nds f) = (nds[k], flAr nds f) := by
  unfold lookAr
  rw [fl_at nds f k h h20]
  simp only [fl_get nds f k h]; rfl
end
/-- A Small in a list: what it says, and the values of its slices. -/
structure SmV where
  s : Sm
  va : Value
  vb : Value
def smvC (x : SmV) : List Value := [.bool x.s.inner, .bool x.s.tagged, x.va, x.vb]
def SmV.ok (w : World) (x : SmV) : Prop := RdV w x.va x.s.keys.length 1 (x.s.keys.map (Value.int .i8)) ∧ RdV w x.vb x.s.ways.length 1 (x.s.ways.map (Value.int .u8)) ∧ (∀ z ∈ x.s.keys, -128 ≤ z ∧ z ≤ 127) ∧ (∀ z ∈ x.s.ways, 0 ≤ z ∧ z ≤ 255)
theorem pick_lt {α : Type} {p : Nat → α → Prop} : ∀ {n : Nat}, (∀ i, i < n → ∃ x, p i x) → ∃ xs : List α, xs.length = n ∧ ∀ i x, xs[i]? = some x → p i x
  | 0, _ => ⟨[], rfl, fun i x h => by simp at h⟩
  | n + 1, h => by
    obtain ⟨xs, hl, hx⟩ := pick_lt (n := n) (fun i hi => h i (by omega))
    obtain ⟨y, hy⟩ := h n (by omega)
    refine ⟨xs ++ [y], by simp [hl], fun i x hi => ?_⟩
    by_cases hlt : i < xs.length
    · rw [List.getElem?_append_left hlt] at hi; exact hx i x hi
    · rw [List.getElem?_append_right (by omega)] at hi
      have h0 : i - xs.length = 0 := by
        have := (List.getElem?_eq_some_iff.1 hi).1
        simp at this; omega
      rw [h0] at hi
      simp at hi
      subst hi
      rw [show i = n from by omega]; exact hy
theorem flat4_len (xs : List SmV) : (xs.flatMap smvC).length = xs.length * 4 := by
  induction xs with
  | nil => rfl
  | cons x xs ih => simp only [List.flatMap_cons, List.length_append, ih, smvC, List.length_cons, List.length_nil]; omega
theorem flat4_get : ∀ (xs : List SmV) (k j : Nat) (x : SmV), xs[k]? = some x → j < 4 → (xs.flatMap smvC)[k * 4 + j]? = (smvC x)[j]?
  | [], k, j, x, h, _ => by simp at h
  | y :: xs, 0, j, x, h, hj => by
    simp at h; subst h
    rw [List.flatMap_cons, List.getElem?_append_left (by simp [smvC]; omega), Nat.zero_mul, Nat.zero_add]
  | y :: xs, k + 1, j, x, h, hj => by
    simp at h
    rw [List.flatMap_cons, List.getElem?_append_right (by simp [smvC]; omega), show (k + 1) * 4 + j - (smvC y).length = k * 4 + j from by simp [smvC]; omega]
    exact flat4_get xs k j x h hj
section
variable {H : Type} {enc : TypeId × Value → H} {P : Program} {w : World} {base : Nat} {spare : Nat → Bool} {held : Bool}
theorem RdV_smalls {r : Reach} {b0 : Nat} {t e e2 e3 : TypeId} {f0 f1 f2 f3 : Field} {v : Value} {d : DataW H} {p : List MemPlace} (ht : P.underlying t = some (.slice e)) (he : P.underlying e = some (.struct #[f0, f1, f2, f3])) (hone : oneCellFields P #[f0, f1, f2, f3] = true) (hC : P.cellsOf e = 4)
    (u0 : P.underlying f0.type = some .bool) (u1 : P.underlying f1.type = some .bool) (u2 : P.underlying f2.type = some (.slice e2)) (ue2 : P.underlying e2 = some (.int .i8)) (k2 : P.cellsOf e2 = 1) (u3 : P.underlying f3.type = some (.slice e3)) (ue3 : P.underlying e3 = some (.int .u8)) (k3 : P.cellsOf e3 = 1)
    (hv : Value.okWide P w r b0 t v) (h : DataW.Trod enc P w base spare held t v d p) : ∃ xs : List SmV, RdV w v xs.length 4 (xs.flatMap smvC) ∧ ∀ x ∈ xs, x.ok w := by
  obtain ⟨a0, len0, cap0, rfl⟩ := okWide_slice ht hv
  obtain ⟨fuel, hf⟩ := h
  rcases open_slice_fields ht he hone hC hf with ⟨hcs, _⟩ | ⟨a, len, cap, V, hcs, hl, hm, hV⟩
  · simp [Value.cells] at hcs
    obtain ⟨rfl, rfl, rfl⟩ := hcs
    exact ⟨[], ⟨rfl, by simp, .inl ⟨rfl, rfl⟩⟩, by simp⟩
  · simp [Value.cells] at hcs
    obtain ⟨rfl, rfl, rfl⟩ := hcs
    have key : ∀ i, i < len0 → ∃ x : SmV, x.ok w ∧ ∀ j, j < 4 → w.cell? (a.add (i * 4 + j)) = (smvC x)[j]? := fun i hi => by
      obtain ⟨m0, y0, c0, t0⟩ := hV i hi 0 f0 rfl
      obtain ⟨m1, y1, c1, t1⟩ := hV i hi 1 f1 rfl
      obtain ⟨m2, y2, c2, t2⟩ := hV i hi 2 f2 rfl
      obtain ⟨m3, y3, c3, t3⟩ := hV i hi 3 f3 rfl
      obtain ⟨z0, v0, _⟩ := DataW.trod_bool u0 t0
      obtain ⟨z1, v1, _⟩ := DataW.trod_bool u1 t1
      obtain ⟨ks, R2, w2⟩ := RdV_of_trod u2 ue2 k2 t2
      obtain ⟨ws, R3, w3⟩ := RdV_of_trod u3 ue3 k3 t3
      simp at v0 v1
      refine ⟨⟨⟨z0, z1, ks, ws⟩, V i 2, V i 3⟩, ⟨R2, R3, fun x hx => bounds_i8 (w2 x hx), fun x hx => bounds_u8 (w3 x hx)⟩, fun j hj => ?_⟩
      rcases (by omega : j = 0 ∨ j = 1 ∨ j = 2 ∨ j = 3) with rfl | rfl | rfl | rfl
      · exact c0.trans (by rw [v0]; rfl)
      · exact c1.trans (by rw [v1]; rfl)
      · exact c2
      · exact c3
    obtain ⟨X, hX, hA⟩ := pick_lt key
    subst hX
    refine ⟨X, ⟨flat4_len X, by omega, .inr ⟨a, cap0, rfl, by omega, fun j hj => ?_⟩⟩, fun x hx => ?_⟩
    · have hq : j / 4 < X.length := by omega
      have h0 := List.getElem?_eq_getElem hq
      have := flat4_get X (j / 4) (j % 4) _ h0 (by omega)
      rw [show j / 4 * 4 + j % 4 = j from by omega] at this
      rw [this, ← (hA (j / 4) _ h0).2 (j % 4) (by omega), show j / 4 * 4 + j % 4 = j from by omega]
    · obtain ⟨i, hi⟩ := List.mem_iff_getElem?.1 hx
      exact (hA i x hi).1
end
end Go.Proofs.Ytolkpmbmgiplcaa
