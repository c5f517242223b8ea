/- The arena behind a load: bounds; nodes that are not too great. No program. -/
import Derived.Test.YtkbnoceekileiaaFrn
namespace Go.Proofs.Ytkbnoceekileiaa
open Go Go.RowKit
set_option linter.unusedVariables false
set_option linter.unusedSimpArgs false
set_option maxRecDepth 100000
theorem OkN.swapWayL {ar : Ar} {N : Nat} (h : OkN ar N) (r i x y : Int) : OkN (swapWayAr r i x y ar).2 (N + 1) := by
  unfold swapWayAr
  cases hr : arAt ar r with
  | none => exact h.fault
  | some p =>
    have hp : p < ar.slots.length := (List.getElem?_eq_some_iff.1 (at_get hr)).1
    dsimp only
    split
    · exact (h.put p { ar.at p with ways := (ar.at p).ways.set i.toNat y } (h.at hp)).up (Nat.le_succ N)
    · exact h.up (Nat.le_succ N)
theorem swapWay_free (r i x y : Int) (ar : Ar) : (swapWayAr r i x y ar).2.free = ar.free := by
  unfold swapWayAr
  cases hr : arAt ar r with
  | none => rfl
  | some p => dsimp only; split <;> rfl
theorem OkN.add {ar : Ar} {N : Nat} (h : OkN ar N) (nds : List Nd) (hf : ∀ x ∈ nds, x.few) : OkN (addAr ar nds) (N + nds.length + 1) := by
  refine ⟨h.most, ?_, ?_, fun s hs => ?_, ?_, fun i hi => ?_, ?_⟩
  · have := h.used
    show _ ≤ ar.used + (nds.length : Int) ∧ ar.used + (nds.length : Int) ≤ _
    omega
  · have := h.few
    simp [addAr]; omega
  · simp only [addAr, List.mem_append, List.mem_map] at hs
    rcases hs with hs | ⟨x, hx, rfl⟩
    · have := h.cnt s hs
      exact ⟨by omega, this.2⟩
    · exact ⟨by simp [newSl], hf x hx⟩
  · have := h.faults
    show 0 ≤ ar.faults ∧ _
    exact ⟨this.1, by show ar.faults ≤ _; omega⟩
  · have := h.free i hi
    simp [addAr]; omega
  · have := h.frees
    show ar.free.length ≤ _
    omega
theorem leafNds_few : ∀ (ps : List Nat) (l : List (Int × Int)), l.length ≤ 10000 → ∀ x ∈ leafNds ps l, x.few
  | [], l, h, x, hx => by simp [leafNds] at hx
  | k :: t, l, h, x, hx => by
    unfold leafNds at hx
    rcases List.mem_cons.1 hx with rfl | hx
    · exact ⟨by simp; omega, by simp, by simp⟩
    · exact leafNds_few t (l.drop k) (by simp; omega) x hx
theorem upNds_few : ∀ (ps : List Nat) (row fs : List Int), row.length ≤ 10000 → fs.length ≤ 10000 → ∀ x ∈ upNds ps row fs, x.few
  | [], row, fs, h, _, x, hx => by simp [upNds] at hx
  | k :: t, row, fs, h, h2, x, hx => by
    unfold upNds at hx
    rcases List.mem_cons.1 hx with rfl | hx
    · exact ⟨by simp, by simp; omega, by simp; omega⟩
    · exact upNds_few t (row.drop k) (fs.drop k) (by simp; omega) (by simp; omega) x hx
theorem loadUp_few {b n0 : Nat} (hb : 2 ≤ b) : ∀ (f : Nat) (nds : List Nd) (row fs : List Int), row.length ≤ 10000 → fs.length = row.length → (∀ x ∈ nds, x.few) → ∀ x ∈ (loadUp b n0 f nds row fs).1, x.few
  | 0, nds, row, fs, _, _, h => h
  | f + 1, nds, row, fs, hr, hl, h => by
    unfold loadUp
    split
    · exact h
    · have h1 := partK_less hb (show 2 ≤ row.length by omega)
      refine loadUp_few hb f _ _ _ (by rw [refsN_len]; omega) (by rw [refsN_len, upKeys_len, partsN_len]) (fun x hx => ?_)
      rcases List.mem_append.1 hx with hx | hx
      · exact h x hx
      · exact upNds_few _ _ _ hr (by omega) x hx
theorem loadNds_few {b n0 : Nat} (hb : 2 ≤ b) {l : List (Int × Int)} (hl : l.length ≤ 10000) (h1 : 1 ≤ l.length) : ∀ x ∈ (loadNds b n0 l).1, x.few := by
  unfold loadNds
  have h2 := partK_le (k := l.length) (b := b) (by omega) h1
  exact loadUp_few hb _ _ _ _ (by rw [refsN_len]; omega) (by rw [refsN_len, leafKeys_len, partsN_len]) (leafNds_few _ _ hl)
theorem loadUp_stop {b n0 : Nat} (f : Nat) {nds : List Nd} {row fs : List Int} (h : row.length ≤ 1) : loadUp b n0 f nds row fs = (nds, row) := by
  cases f with
  | zero => rfl
  | succ f => unfold loadUp; rw [if_pos h]
theorem loadUp_go {b n0 : Nat} (f : Nat) {nds : List Nd} {row fs : List Int} (h : 1 < row.length) : loadUp b n0 (f + 1) nds row fs = loadUp b n0 f (nds ++ upNds (partsN row.length b) row fs) (refsN (n0 + nds.length) (partK row.length b)) (upKeys (partsN row.length b) fs) := by
  rw [loadUp, if_neg (by omega)]
theorem nodesUp_go {b f k : Nat} (h : 1 < k) : nodesUp b (f + 1) k = partK k b + nodesUp b f (partK k b) := by
  rw [nodesUp, if_neg (by omega)]
end Go.Proofs.Ytkbnoceekileiaa
