/- Two records that were made of the same time: what holds at any time stays so; the game. No program. -/
import Derived.Test.YthkohomogknddaaHrw
namespace Go.Proofs.Ythkohomogknddaa
open Go Go.RowKit
set_option linter.unusedVariables false
set_option linter.unusedSimpArgs false
set_option maxRecDepth 100000
section
variable {A B : Rv} {ep : Ep} {x : H2} {w : Bool} {who : Nat → Bool}
theorem rvN_inj {a b : Bool} (h : rvN a = rvN b) : a = b := by cases a <;> cases b <;> first | rfl | (exact absurd h (by decide))
theorem setSt_L (v : Int) : (x.setSt w v).L = x.L := by cases w <;> rfl
theorem setAl_L : (x.setAl w).L = x.L := by cases w <;> rfl
theorem RvLe.setN {p : Nat} {y v : Nk} (h : x.L[p]? = some y) (h1 : y.inf ≠ 0 → v.inf = y.inf) (h2 : y.a ≠ 200 + 10 * (p : Int) → v.a = y.a) : RvLe x { x with L := x.L.set p v } := by
  refine ⟨fun j u hu => ?_, by simp, fun _ => id, fun _ _ => rfl⟩
  have hi := (List.getElem?_eq_some_iff.1 h).1
  by_cases hj : p = j
  · subst hj
    rw [h] at hu
    injection hu with hu
    subst hu
    exact ⟨v, List.getElem?_set_self hi, h1, h2⟩
  · exact ⟨u, by dsimp only; rw [List.getElem?_set_ne hj]; exact hu, fun _ => rfl, fun _ => rfl⟩
theorem rv_inv_set (hA : RvOk A) (hB : RvOk B) (hv : RvInv A B x) {p : Nat} {y v : Nk} (h : x.L[p]? = some y) (h1 : y.inf ≠ 0 → v.inf = y.inf) (h2 : y.a ≠ 200 + 10 * (p : Int) → v.a = y.a)
    (h3 : v.inf = y.inf ∨ ∃ (w : Bool) (i : Nat), v.inf = rvN w ∧ (rvR A B w).ps[i]? = some p ∧ OwnR (rvR A B w) (rvN w) x i)
    (h4 : v.a = y.a ∨ ∃ w, v.a = (rvR A B w).nw ∧ p = (rvR A B w).hd ∧ AllR (rvR A B w) (rvN w) x) : RvInv A B { x with L := x.L.set p v } := by
  have hle := RvLe.setN (x := x) h h1 h2
  have hi := (List.getElem?_eq_some_iff.1 h).1
  have hR : ∀ w, RvOk (rvR A B w) := fun w => by cases w <;> assumption
  have key : ∀ (j : Nat) (u : Nk), (x.L.set p v)[j]? = some u → (j = p ∧ u = v) ∨ (j ≠ p ∧ x.L[j]? = some u) := fun j u hu => by
    by_cases hj : p = j
    · subst hj
      rw [List.getElem?_set_self hi] at hu
      injection hu with hu
      exact .inl ⟨rfl, hu.symm⟩
    · rw [List.getElem?_set_ne hj] at hu
      exact .inr ⟨Ne.symm hj, hu⟩
  refine ⟨by dsimp only; rw [List.length_set]; exact hv.len, fun j u hu => ?_, fun w i j a b c d hij ha hb hc hd he => ?_, fun j u hu => ?_, fun w hw => OwnR.mono (hv.al w hw) hle, fun w => ?_⟩
  · rcases key j u hu with ⟨rfl, rfl⟩ | ⟨_, hu⟩
    · rcases h3 with h3 | ⟨w, i, e1, e2, _⟩
      · rw [h3]; exact hv.rng j y h
      · exact .inr ⟨w, e1, List.mem_of_getElem? e2⟩
    · exact hv.rng j u hu
  · rcases key b d hd with ⟨rfl, rfl⟩ | ⟨hbp, hd'⟩
    · rcases key a c hc with ⟨rfl, rfl⟩ | ⟨hap, hc'⟩
      · exact he
      · rcases h3 with h3 | ⟨w', i', e1, e2, e3⟩
        · exact hv.pre w i j a b c y hij ha hb hc' h (by rw [← h3]; exact he)
        · have hw := rvN_inj (e1.symm.trans he)
          subst hw
          have hij' : j = i' := by
            obtain ⟨l1, q1⟩ := List.getElem?_eq_some_iff.1 hb
            obtain ⟨l2, q2⟩ := List.getElem?_eq_some_iff.1 e2
            rcases (by omega : j < i' ∨ j = i' ∨ i' < j) with hh | hh | hh
            · have := List.pairwise_iff_getElem.1 (hR w').up j i' l1 l2 hh; omega
            · exact hh
            · have := List.pairwise_iff_getElem.1 (hR w').up i' j l2 l1 hh; omega
          subst hij'
          exact e3 i a c hij ha hc'
    · rcases key a c hc with ⟨rfl, rfl⟩ | ⟨hap, hc'⟩
      · have := hv.pre w i j a b y d hij ha hb h hd' he
        rw [h1 (by rw [this]; exact rvN_ne w), this]
      · exact hv.pre w i j a b c d hij ha hb hc' hd' he
  · rcases key j u hu with ⟨rfl, rfl⟩ | ⟨_, hu⟩
    · rcases h4 with h4 | ⟨w, e1, e2, e3⟩
      · rcases hv.way j y h with h5 | ⟨w, e1, e2, e3⟩
        · exact .inl (h4.trans h5)
        · exact .inr ⟨w, h4.trans e1, e2, OwnR.mono e3 hle⟩
      · exact .inr ⟨w, e1, e2, OwnR.mono e3 hle⟩
    · rcases hv.way j u hu with h5 | ⟨w, e1, e2, e3⟩
      · exact .inl h5
      · exact .inr ⟨w, e1, e2, OwnR.mono e3 hle⟩
  · rcases hv.st w with h5 | ⟨h5, h6⟩ | ⟨h5, h6, h7⟩
    · exact .inl h5
    · exact .inr (.inl ⟨h5, Lost.mono h6 hle⟩)
    · exact .inr (.inr ⟨h5, OwnR.mono h6 hle, WayR.mono h7 hle ((hR w).nw _ ((hR w).lt _ (hR w).hd_mem.1))⟩)
theorem rv_inv_st (hv : RvInv A B x) {v : Int} (h : (v = 0 ∧ Lost (rvR A B w) (rvN w) x) ∨ (v = 2 ∧ AllR (rvR A B w) (rvN w) x ∧ WayR (rvR A B w) x)) : RvInv A B (x.setSt w v) := by
  have e := setSt_L (x := x) (w := w) v
  have al : ∀ w', (x.setSt w v).al w' = x.al w' := fun w' => by cases w <;> cases w' <;> rfl
  refine ⟨by rw [e]; exact hv.len, by rw [e]; exact hv.rng, by rw [e]; exact hv.pre, fun p y hy => ?_, fun w' hw => ?_, fun w' => ?_⟩
  · rw [e] at hy
    rcases hv.way p y hy with h5 | ⟨w', e1, e2, e3⟩
    · exact .inl h5
    · exact .inr ⟨w', e1, e2, by unfold AllR OwnR at e3 ⊢; rw [e]; exact e3⟩
  · rw [al] at hw
    have := hv.al w' hw
    unfold AllR OwnR at this ⊢
    rw [e]; exact this
  · by_cases hw : w' = w
    · subst hw
      have st : (x.setSt w' v).st w' = v := by cases w' <;> rfl
      rw [st]
      unfold Lost AllR OwnR WayR at h ⊢
      rw [e]
      rcases h with ⟨h1, h2⟩ | ⟨h1, h2, h3⟩
      · exact .inr (.inl ⟨h1, h2⟩)
      · exact .inr (.inr ⟨h1, h2, h3⟩)
    · have st : (x.setSt w v).st w' = x.st w' := by cases w <;> cases w' <;> first | rfl | exact absurd rfl hw
      rw [st]
      have := hv.st w'
      unfold Lost AllR OwnR WayR at this ⊢
      rw [e]; exact this
theorem RvLe.setSt {v : Int} (h : x.st w = 1 ∨ x.st w = v) : RvLe x (x.setSt w v) := by
  have e := setSt_L (x := x) (w := w) v
  refine ⟨fun p y hy => ⟨y, by rw [e]; exact hy, fun _ => rfl, fun _ => rfl⟩, by rw [e], fun w' hw => ?_, fun w' hw => ?_⟩
  · have al : (x.setSt w v).al w' = x.al w' := by cases w <;> cases w' <;> rfl
    rw [al]; exact hw
  · by_cases hww : w' = w
    · subst hww
      have st : (x.setSt w' v).st w' = v := by cases w' <;> rfl
      rw [st]
      rcases h with h | h
      · exact absurd h hw
      · exact h.symm
    · cases w <;> cases w' <;> first | rfl | exact absurd rfl hww
theorem rv_inv_al (hv : RvInv A B x) (h : AllR (rvR A B w) (rvN w) x) : RvInv A B (x.setAl w) := by
  have e := setAl_L (x := x) (w := w)
  have st : ∀ w', (x.setAl w).st w' = x.st w' := fun w' => by cases w <;> cases w' <;> rfl
  refine ⟨by rw [e]; exact hv.len, by rw [e]; exact hv.rng, by rw [e]; exact hv.pre, fun p y hy => ?_, fun w' hw => ?_, fun w' => ?_⟩
  · rw [e] at hy
    rcases hv.way p y hy with h5 | ⟨w', e1, e2, e3⟩
    · exact .inl h5
    · exact .inr ⟨w', e1, e2, by unfold AllR OwnR at e3 ⊢; rw [e]; exact e3⟩
  · by_cases hww : w' = w
    · subst hww
      unfold AllR OwnR at h ⊢
      rw [e]; exact h
    · have al : (x.setAl w).al w' = x.al w' := by cases w <;> cases w' <;> first | rfl | exact absurd rfl hww
      rw [al] at hw
      have := hv.al w' hw
      unfold AllR OwnR at this ⊢
      rw [e]; exact this
  · rw [st]
    have := hv.st w'
    unfold Lost AllR OwnR WayR at this ⊢
    rw [e]; exact this
theorem RvLe.setAl : RvLe x (x.setAl w) := by
  have e := setAl_L (x := x) (w := w)
  refine ⟨fun p y hy => ⟨y, by rw [e]; exact hy, fun _ => rfl, fun _ => rfl⟩, by rw [e], fun w' hw => ?_, fun w' hw => ?_⟩
  · cases w <;> cases w' <;> first | rfl | exact hw
  · cases w <;> cases w' <;> rfl
end
end Go.Proofs.Ythkohomogknddaa
