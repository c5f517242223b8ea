/- The epoch laws' Awake. No condition. -/
import Derived.Test.YtnoioldbddjkiaaEpoE
namespace Go.Proofs.Ytnoioldbddjkiaa
open Go Go.RowKit
set_option linter.unusedVariables false
set_option linter.unusedSimpArgs false
theorem Fr.step {S : Nat → Prop} {B : Nat} {a b c : World} (h : Fr nob a b) (k : Fr S b c) (hs : ∀ j, S j → B ≤ j) (hB : B = a.heap.size) : Fr nob a c ∧ ∀ j, wide S b c j → B ≤ j := by
  refine ⟨h.trans k (fun j hj hx => by have := hs j hx; omega), fun j hj => ?_⟩
  rcases hj with hj | hj
  · exact hs j hj
  · have := h.size; omega
theorem wide_nob {B : Nat} {a b c : World} (h : Fr nob a b) (hB : B = a.heap.size) : ∀ j, wide nob b c j → B ≤ j := fun j hj => by
  rcases hj with hj | hj
  · exact hj.elim
  · have := h.size; omega
set_option maxHeartbeats 1600000 in
set_option maxRecDepth 100000 in
theorem Awake_calls (w : World) : Calls Try.prog 9 #[] w fun e w' => e = .returned (.bool true) ∧ Fr nob w w' := by
  go_enter Try.func9, Try.ntmps9
  go_wp2_with fail
  refine (New_calls 1 _).mono ?_
  rintro e w1 ⟨b, rfl, F1, E1⟩
  have S1 := wide_nob (c := w1) (Fr.refl nob w) rfl
  go_wp2_with fail
  refine (Leave_yes E1 0 9 2 rfl [] rfl (by simp)).mono ?_
  rintro e w2 ⟨rfl, F2, E2⟩
  obtain ⟨F2, S2⟩ := F1.step F2 S1 rfl
  clear F1 E1 S1
  go_wp2_with fail
  refine (Said_calls E2 0).mono ?_
  rintro e w3 ⟨rfl, hw⟩
  have hw := hw.symm
  subst hw
  go_wp2_with fail
  refine (Ready_soon E2 0 4 rfl 9 2 [] rfl (by omega) (by omega) (by omega) (by omega)).mono ?_
  rintro e w3 ⟨rfl, F3⟩
  have E3 := E2.fr F3 (fun _ _ x => x)
  replace F3 := F2.trans F3 (fun _ _ x => x)
  clear E2 F2
  go_wp2_with fail
  refine (Limbo_calls E3 (by decide)).mono ?_
  rintro e w4 ⟨rfl, hw⟩
  have hw := hw.symm
  subst hw
  go_wp2_with fail
  refine (Ready_ripe E3 0 5 rfl 9 2 [] rfl (by omega) (by omega) (by omega) (by omega)).mono ?_
  rintro e w5 ⟨rfl, F5, E5⟩
  obtain ⟨F5, S5⟩ := F3.step F5 S2 rfl
  clear E3 F3
  go_wp2_with fail
  refine (Limbo_calls E5 (by decide)).mono ?_
  rintro e w6 ⟨rfl, hw⟩
  have hw := hw.symm
  subst hw
  go_wp2_with fail
  go_ret
  exact ⟨rfl, F5⟩
end Go.Proofs.Ytnoioldbddjkiaa
