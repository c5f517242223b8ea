/- How the laws' arguments are opened: structs, slices of whole numbers; what the row's reach says of their sizes. No condition. -/
import Derived.Test.YtblijgdmfohfcaaBase
import Derived.Lib.SmallJoins
import Derived.ProofKit
import Derived.OpenShut
import Derived.SizedLaws
import Derived.Deep.Slices
import Derived.Deep.Fields
import Derived.ChangeSame
namespace Go.Proofs.Ytblijgdmfohfcaa
open Go Go.RowKit
open Go.Joins Go.ChangeShapes Go.WideShapes Go.Deep
set_option linter.unusedVariables false
set_option linter.unusedSimpArgs false
/-- Each slice in the datum is as small as the row's reach says. -/
def Wt {H : Type} (P : Program) (t : TypeId) (d : DataW H) : Prop := ∀ n ∈ d.weights P t, n ≤ reachBytes
theorem Wt.arg {H : Type} {P : Program} {ts : List TypeId} {ds : List (DataW H)} (h : (DataW.weightsEach P ts ds).all (· ≤ reachBytes) = true) (j : Nat) {t : TypeId} {d : DataW H} (ht : ts[j]? = some t) (hd : ds[j]? = some d) : Wt P t d := fun n hn => by
  have := List.all_eq_true.1 h _ (DataW.weights_mem_each ht hd n hn)
  simpa using this
theorem Wt.field {H : Type} {P : Program} {t : TypeId} {fs : Array Field} {parts : List (DataW H)} (h : Wt P t (.agg parts)) (hu : P.underlying t = some (.struct fs)) (j : Nat) {f : Field} {d : DataW H} (hf : fs[j]? = some f) (hd : parts[j]? = some d) : Wt P f.type d := fun n hn => by
  refine h n ?_
  simp only [DataW.weights, hu]
  exact DataW.weights_mem_each (j := j) (by simp [hf]) hd n hn
theorem Wt.slice {H : Type} {P : Program} {t e : TypeId} {elems spare : List (DataW H)} (h : Wt P t (.slice elems spare)) (hu : P.underlying t = some (.slice e)) : (elems.length + spare.length) * P.bytesOf e ≤ reachBytes := by
  refine h _ ?_
  simp [DataW.weights, hu]
theorem mem_weightsAll {H : Type} {P : Program} {e : TypeId} {d : DataW H} {n : Nat} (hn : n ∈ d.weights P e) : ∀ {l : List (DataW H)}, d ∈ l → n ∈ DataW.weightsAll P e l
  | x :: r, hd => by
    simp only [DataW.weightsAll, List.mem_append]
    rcases List.mem_cons.1 hd with rfl | hd
    · exact .inl hn
    · exact .inr (mem_weightsAll hn hd)
theorem Wt.elem {H : Type} {P : Program} {t e : TypeId} {elems spare : List (DataW H)} (h : Wt P t (.slice elems spare)) (hu : P.underlying t = some (.slice e)) {d : DataW H} (hd : d ∈ elems) : Wt P e d := fun n hn => by
  refine h n ?_
  simp only [DataW.weights, hu, List.mem_cons, List.mem_append]
  exact .inr (.inl (mem_weightsAll hn hd))
/-- What could be read in w0 can be read on, while only blocks that were made since change. -/
theorem Rd.fr2 {S : Nat → Prop} {w0 w w' : World} {v : Value} {xs : List Int} (h0 : Rd w0 v xs) (h : Rd w v xs) (hf : Fr S w w') (hs : ∀ j, S j → w0.heap.size ≤ j) : Rd w' v xs := by
  rcases h with h | ⟨a, c, rfl, h1, h2, h3⟩
  · exact .inl h
  · refine .inr ⟨a, c, rfl, h1, h2, fun j hj => ?_⟩
    have hb : (a.add j).block = a.block := by unfold Addr.add; split <;> rfl
    refine hf.cell' (h3 j hj) (fun hx => ?_)
    rcases h0 with ⟨h0, _⟩ | ⟨a', c', h0, _, _, h4⟩
    · cases h0
    · simp only [Value.slice.injEq, Option.some.injEq] at h0
      obtain ⟨rfl, _, _⟩ := h0
      have := cell_lt (h4 j hj)
      have := hs _ hx
      omega
section
variable {H : Type} {enc : TypeId × Value → H} {P : Program} {w : World} {base : Nat} {spare : Nat → Bool} {held : Bool}
/-- A slice of whole numbers of 64 bits. -/
theorem Rd_of_trod {t e : TypeId} {fuel : Nat} {v : Value} {y : DataW H × List MemPlace} (ht : P.underlying t = some (.slice e)) (he : P.underlying e = some (.int .i64)) (hc : P.cellsOf e = 1) (hb : P.bytesOf e = 8)
    (h : DataW.trod enc P w base spare held fuel t [v] = some y) (hw : Wt P t y.1) : ∃ xs, Rd w v xs ∧ ∀ n ∈ xs, (Lit.int .i64 n).wf = true := by
  rcases open_ints ht he hc h with ⟨hcs, _⟩ | ⟨a, len, cap, zs, hcs, _, hl, hm, hz, hx, hcell, hwz⟩
  · simp at hcs; subst hcs
    exact ⟨[], .inl ⟨rfl, rfl⟩, by simp⟩
  · simp at hcs; subst hcs
    rw [hx] at hw
    have hs := hw.slice ht
    simp only [lits, List.length_map, hb] at hs
    have hzl : len ≤ zs.length := by rw [hz]; split <;> omega
    have hlen : (zs.take len).length = len := by simp; omega
    refine ⟨zs.take len, .inr ⟨a, cap, by rw [hlen], by omega, ?_, fun j hj => ?_⟩, fun n hn => hwz n (List.mem_of_mem_take hn)⟩
    · have hr : reachBytes = 140737488351232 := rfl
      rw [hlen]
      rw [hlen] at hs
      omega
    · rw [hcell j (by omega)]
      simp [List.getD, List.getElem?_take]
      rw [if_pos (by omega)]
theorem open_agg6 {r : Reach} {b0 : Nat} {t : TypeId} {f0 f1 f2 f3 f4 f5 : Field} {v : Value} {d : DataW H} {p : List MemPlace} (hs : P.underlying t = some (.struct #[f0, f1, f2, f3, f4, f5])) (hone : oneCellFields P #[f0, f1, f2, f3, f4, f5] = true) (hC : P.cellsOf t = 6)
    (hv : Value.okWide P w r b0 t v) (h : DataW.Trod enc P w base spare held t v d p) :
    ∃ (v0 v1 v2 v3 v4 v5 : Value) (y0 y1 y2 y3 y4 y5 : DataW H × List MemPlace) (n : Nat), v = .agg #[v0, v1, v2, v3, v4, v5] ∧ d = .agg [y0.1, y1.1, y2.1, y3.1, y4.1, y5.1] ∧
      DataW.trod enc P w base spare held n f0.type [v0] = some y0 ∧ DataW.trod enc P w base spare held n f1.type [v1] = some y1 ∧ DataW.trod enc P w base spare held n f2.type [v2] = some y2 ∧ DataW.trod enc P w base spare held n f3.type [v3] = some y3 ∧ DataW.trod enc P w base spare held n f4.type [v4] = some y4 ∧ DataW.trod enc P w base spare held n f5.type [v5] = some y5 := by
  obtain ⟨cs, rfl, hsz⟩ := okWide_struct hs hv
  obtain ⟨l⟩ := cs
  match l, hsz.trans hC with
  | [c0, c1, c2, c3, c4, c5], _ =>
    obtain ⟨fuel, hf⟩ := h
    obtain ⟨xs, n, _, hx, _, hlen, hg⟩ := DataW.trod_struct hs hf
    obtain ⟨o0, k0⟩ := hone_of hone 0 f0 rfl
    obtain ⟨o1, k1⟩ := hone_of hone 1 f1 rfl
    obtain ⟨o2, k2⟩ := hone_of hone 2 f2 rfl
    obtain ⟨o3, k3⟩ := hone_of hone 3 f3 rfl
    obtain ⟨o4, k4⟩ := hone_of hone 4 f4 rfl
    obtain ⟨o5, k5⟩ := hone_of hone 5 f5 rfl
    match xs, hlen with
    | [y0, y1, y2, y3, y4, y5], _ =>
      simp only [Prod.mk.injEq] at hx
      exact ⟨c0, c1, c2, c3, c4, c5, y0, y1, y2, y3, y4, y5, n, rfl, by simpa using hx.1, by simpa [Value.cells, o0, k0] using hg 0 f0 rfl, by simpa [Value.cells, o1, k1] using hg 1 f1 rfl, by simpa [Value.cells, o2, k2] using hg 2 f2 rfl, by simpa [Value.cells, o3, k3] using hg 3 f3 rfl, by simpa [Value.cells, o4, k4] using hg 4 f4 rfl, by simpa [Value.cells, o5, k5] using hg 5 f5 rfl⟩
theorem int_of_trod {t : TypeId} {k : IntKind} {fuel : Nat} {v : Value} {y : DataW H × List MemPlace} (ht : P.underlying t = some (.int k)) (h : DataW.trod enc P w base spare held fuel t [v] = some y) : ∃ n, v = .int k n ∧ (Lit.int k n).wf = true := by
  obtain ⟨n, hcs, _, hw⟩ := DataW.trod_int ht h
  simp at hcs
  exact ⟨n, hcs, hw⟩
end
end Go.Proofs.Ytblijgdmfohfcaa
