/- Begin where others announced something, and no node waits. No program, no condition. -/
import Derived.Test.YthkohomogknddaaQui
namespace Go.Proofs.Ythkohomogknddaa
open Go Go.RowKit
set_option linter.unusedVariables false
set_option linter.unusedSimpArgs false
/-- Announcements are gone through up to the first that is another epoch: how many; whether there is none such. -/
def scanC (now : Int) : List Int → Nat
  | [] => 0
  | y :: r => if y ≠ -1 ∧ y ≠ now then 1 else 1 + scanC now r
def scanA (now : Int) : List Int → Bool
  | [] => true
  | y :: r => if y ≠ -1 ∧ y ≠ now then false else scanA now r
theorem scan_snoc (now y : Int) : ∀ l : List Int, scanC now (l ++ [y]) = (if scanA now l = true then scanC now l + 1 else scanC now l) ∧ scanA now (l ++ [y]) = (scanA now l && decide (¬ (y ≠ -1 ∧ y ≠ now)))
  | [] => by
    simp only [List.nil_append, scanC, scanA, if_true, Bool.true_and]
    constructor
    · split <;> simp
    · by_cases h : y ≠ -1 ∧ y ≠ now
      · rw [if_pos h]; simp [h]
      · rw [if_neg h]; simp [h]
  | x :: l => by
    obtain ⟨h1, h2⟩ := scan_snoc now y l
    simp only [List.cons_append, scanC, scanA]
    by_cases h : x ≠ -1 ∧ x ≠ now
    · simp [h]
    · simp only [if_neg h, h1, h2]
      refine ⟨?_, trivial⟩
      split <;> omega
theorem scanC_le (now : Int) : ∀ l : List Int, scanC now l ≤ l.length
  | [] => Nat.le_refl _
  | y :: r => by
    have := scanC_le now r
    unfold scanC
    split <;> simp <;> omega
theorem saidEp_get {e : Ep} {k : Nat} (h : k < e.said.length) : saidEp (k : Int) e = e.said[k] := by
  unfold saidEp
  rw [isT_nat h, if_pos rfl]
  simp [List.getD, h]
theorem saids_scan (s : Wd) (now : Int) : ∀ (m k : Nat), k + m = s.ep.said.length → (saidsL s m k now).length = scanC now (s.ep.said.drop k) ∧ saidsV s m k now = scanA now (s.ep.said.drop k) ∧ ∀ a ∈ saidsL s m k now, a ∈ s.ep.said
  | 0, k, h => by rw [List.drop_eq_nil_of_le (by omega)]; exact ⟨rfl, rfl, fun a h => by simp [saidsL] at h⟩
  | m + 1, k, h => by
    have hk : k < s.ep.said.length := by omega
    have hd : s.ep.said.drop k = s.ep.said[k] :: s.ep.said.drop (k + 1) := List.drop_eq_getElem_cons hk
    have hm : s.ep.said[k] ∈ s.ep.said := List.getElem_mem hk
    obtain ⟨h1, h2, h3⟩ := saids_scan s now m (k + 1) (by omega)
    rw [hd]
    unfold saidsL saidsV scanC scanA
    rw [saidEp_get hk]
    split
    · exact ⟨rfl, rfl, fun a ha => by simp at ha; subst ha; exact hm⟩
    · refine ⟨by rw [List.length_cons, ← h1]; push_cast; omega, by rw [← h2]; rfl, fun a ha => ?_⟩
      rcases List.mem_cons.1 ha with rfl | ha
      · exact hm
      · exact h3 a ha
theorem begin_said {s : Wd} {now : Int} {xs : List Int} {m me : Nat} (hs : s.ep = ⟨now, xs, List.replicate m []⟩) (hx : xs.length = m) (hme : me < m) (hr : -1000 ≤ now ∧ now ≤ 1000000) (hxr : ∀ a ∈ xs, -1000 ≤ a ∧ a ≤ 1000000) :
    ∃ l, Runs ev0 (beginP me m 1000) s l () ev0 { s with ep := ⟨if scanA now (xs.set me now) = true then now + 1 else now, xs.set me now, List.replicate m []⟩ } ∧ l.length = 4 + scanC now (xs.set me now) + (if scanA now (xs.set me now) = true then 1 else 0) ∧ ∀ a ∈ l, -9223372036854775808 ≤ a ∧ a ≤ 9223372036854775807 := by
  have hn : s.ep.said.length = m := by rw [hs]; exact hx
  have hnow : s.ep.now = now := by rw [hs]
  have hB : begS me s = { s with ep := ⟨now, xs.set me now, List.replicate m []⟩ } := by
    unfold begS aSay sayEp
    rw [hnow, hn, isT_nat hme, hs]
    simp
  have hset : ∀ a ∈ xs.set me now, -1000 ≤ a ∧ a ≤ 1000000 := fun a ha => by
    rcases List.mem_or_eq_of_mem_set ha with ha | rfl
    · exact hxr a ha
    · exact hr
  have hlen : (begS me s).ep.said = xs.set me now := by rw [hB]
  obtain ⟨a1, a2, a3⟩ := saids_scan (begS me s) now m 0 (by rw [hlen]; simp [hx])
  rw [hlen, List.drop_zero] at a1 a2
  rw [hlen] at a3
  have hall : begAll me s = scanA now (xs.set me now) := by unfold begAll; rw [hn, hnow]; exact a2
  have hB2 : begS2 me s = { s with ep := ⟨if scanA now (xs.set me now) = true then now + 1 else now, xs.set me now, List.replicate m []⟩ } := by
    unfold begS2
    rw [hall, hB, hnow]
    unfold aSwap swapEp
    cases scanA now (xs.set me now) <;> simp
  have hemp : takeEp me (begS2 me s).ep.now (begS2 me s).ep = (0, (begS2 me s).ep) := take_empty (fun l hl => by rw [hB2] at hl; simp at hl; exact hl.2)
  have h3 := runs_ones0 (me := me) (now := (begS2 me s).ep.now) (s := begS2 me s) 999 (by rw [hemp]) (by rw [hemp])
  have := runs_begin hn h3
  rw [← hB2]
  refine ⟨_, this, ?_, fun a ha => ?_⟩
  · unfold begL
    rw [hall, hn, hnow]
    simp only [List.length_append, List.length_cons, List.length_nil]
    rw [show ((0 : Nat) : Int) = 0 from rfl] at a1
    rw [a1]
    split <;> simp <;> omega
  · unfold begL at ha
    rw [hall, hn, hnow, hB2] at ha
    simp only [List.mem_append, List.mem_cons, List.not_mem_nil, or_false] at ha
    have hif : -9223372036854775808 ≤ (if scanA now (xs.set me now) = true then now + 1 else now) ∧ (if scanA now (xs.set me now) = true then now + 1 else now) ≤ 9223372036854775807 := by split <;> omega
    rcases ha with (rfl | rfl | ha | ha | rfl) | rfl
    · omega
    · omega
    · have := hset a (a3 a (by rw [hB]; rw [hB] at ha; exact ha)); omega
    · split at ha
      · simp at ha; omega
      · simp at ha
    · exact hif
    · omega
end Go.Proofs.Ythkohomogknddaa
