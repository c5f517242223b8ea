/- Begin where nobody else announced anything and no node waits. No program, no condition. -/
import Derived.Test.YthkohomogknddaaRunB
namespace Go.Proofs.Ythkohomogknddaa
open Go Go.RowKit
set_option linter.unusedVariables false
set_option linter.unusedSimpArgs false
theorem saids_all (s : Wd) (now : Int) : ∀ (m : Nat) (k : Int), (∀ j : Int, k ≤ j → j < k + m → saidEp j s.ep = -1 ∨ saidEp j s.ep = now) → saidsV s m k now = true ∧ (saidsL s m k now).length = m ∧ ∀ a ∈ saidsL s m k now, a = -1 ∨ a = now
  | 0, k, _ => ⟨rfl, rfl, fun a h => by simp [saidsL] at h⟩
  | m + 1, k, h => by
    have h0 := h k (Int.le_refl _) (by omega)
    have hn : ¬ (saidEp k s.ep ≠ -1 ∧ saidEp k s.ep ≠ now) := fun x => by rcases h0 with h0 | h0 <;> simp [h0] at x
    obtain ⟨h1, h2, h3⟩ := saids_all s now m (k + 1) (fun j hj hj' => h j (by omega) (by omega))
    unfold saidsV saidsL
    rw [if_neg hn, if_neg hn]
    refine ⟨h1, by simp [h2], fun a ha => ?_⟩
    rcases List.mem_cons.1 ha with rfl | ha
    · exact h0
    · exact h3 a ha
/-- All announced nothing, nothing waits. -/
def quiet (now : Int) (n : Nat) : Ep := ⟨now, List.replicate n (-1), List.replicate n []⟩
theorem isT_nat {i n : Nat} (h : i < n) : isT (i : Int) n = true := by unfold isT; simp; omega
theorem take_empty {t now : Int} {e : Ep} (h : ∀ l ∈ e.limbo, l = []) : takeEp t now e = (0, e) := by
  unfold takeEp
  split
  · cases hl : e.limbo[t.toNat]? with
    | none => rfl
    | some q => rw [h q (List.mem_of_getElem? hl)]
  · rfl
theorem begin_quiet {s : Wd} {now : Int} {n me : Nat} (hs : s.ep = quiet now n) (hme : me < n) (hr : -1000 ≤ now ∧ now ≤ 1000000) : ∃ l, Runs ev0 (beginP me n 1000) s l () ev0 { s with ep := ⟨now + 1, (List.replicate n (-1)).set me now, List.replicate n []⟩ } ∧ l.length = n + 5 ∧ ∀ a ∈ l, -9223372036854775808 ≤ a ∧ a ≤ 9223372036854775807 := by
  have hn : s.ep.said.length = n := by rw [hs]; simp [quiet]
  have hnow : s.ep.now = now := by rw [hs]; rfl
  have hB : begS me s = { s with ep := ⟨now, (List.replicate n (-1)).set me now, List.replicate n []⟩ } := by
    unfold begS aSay sayEp
    rw [hnow, hn, isT_nat hme, hs]
    simp [quiet]
  have hsaid : ∀ j : Int, 0 ≤ j → j < 0 + n → saidEp j (begS me s).ep = -1 ∨ saidEp j (begS me s).ep = now := fun j h0 h1 => by
    rw [hB]
    unfold saidEp
    split
    · dsimp only
      by_cases hj : j.toNat = me
      · right
        simp [List.getD, hj, hme]
      · left
        simp [List.getD, List.getElem?_set_ne (fun x => hj x.symm), List.getElem?_replicate]
        rw [if_pos (show j.toNat < n from by omega)]; rfl
    · exact .inl rfl
  obtain ⟨a1, a2, a3⟩ := saids_all (begS me s) now n 0 hsaid
  have hall : begAll me s = true := by unfold begAll; rw [hn, hnow]; exact a1
  have hB2 : begS2 me s = { s with ep := ⟨now + 1, (List.replicate n (-1)).set me now, List.replicate n []⟩ } := by
    unfold begS2
    rw [if_pos hall, hB, hnow]
    unfold aSwap swapEp
    simp
  have hemp : takeEp me (begS2 me s).ep.now (begS2 me s).ep = (0, (begS2 me s).ep) := take_empty (fun l hl => by rw [hB2] at hl; simp at hl; exact hl.2)
  have h3 := runs_ones0 (me := me) (now := (begS2 me s).ep.now) (s := begS2 me s) 999 (by rw [hemp]) (by rw [hemp])
  have := runs_begin hn h3
  rw [← hB2]
  refine ⟨_, this, ?_, fun a ha => ?_⟩
  · unfold begL
    rw [hall, hn, hnow]
    simp [a2]
  · unfold begL at ha
    rw [hall, hn, hnow, hB2] at ha
    simp at ha
    rcases ha with rfl | rfl | ha | rfl | rfl | rfl
    · omega
    · omega
    · rcases a3 a ha with rfl | rfl <;> omega
    · omega
    · omega
    · omega
theorem end_quiet {s : Wd} {now : Int} {n me : Nat} (hs : s.ep = ⟨now + 1, (List.replicate n (-1)).set me now, List.replicate n []⟩) (hme : me < n) : (aSay me (-1) s).2 = { s with ep := quiet (now + 1) n } := by
  unfold aSay sayEp
  rw [hs]
  simp [isT_nat hme, quiet]
end Go.Proofs.Ythkohomogknddaa
