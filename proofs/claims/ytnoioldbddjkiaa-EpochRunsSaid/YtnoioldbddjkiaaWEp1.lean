/- EpochReady, EpochThreads, EpochNil: the laws' walks. No condition but that the numbers are of 64 bits. -/
import Derived.Test.YtnoioldbddjkiaaEpoF
namespace Go.Proofs.Ytnoioldbddjkiaa
open Go Go.RowKit
set_option linter.unusedVariables false
set_option linter.unusedSimpArgs false
theorem refReady_calls (a n : Int) (w : World) (hn : -9223372036854775808 ≤ n ∧ n ≤ 9223372036854775807) (ha : -9223372036854775808 ≤ a ∧ a ≤ 9223372036854775807) : Calls Try.prog 14 #[.int .i64 a, .int .i64 n] w fun e w' => e = .returned (.bool (ripe a n)) ∧ w' = w := by
  obtain ⟨hn0, hn1⟩ := hn
  obtain ⟨ha0, ha1⟩ := ha
  go_enter Try.func14, Try.ntmps14
  go_wp2_with fail
  go_loop [1, 5] (fun m i => ∃ k : Nat, k ≤ 3 ∧ i = .int .i64 k ∧ m = .int .i64 (n - k) ∧ (0 < k → a ≤ n - k)) (fun _ i => 3 - (intOf i).toNat)
  case atStart => exact ⟨0, by omega, rfl, by simp, fun h => by omega⟩
  case round =>
    obtain ⟨k, hk, rfl, rfl, hlt⟩ := hrel
    have hb : -9223372036854775808 ≤ n - (k : Int) := by
      by_cases h0 : 0 < k
      · have := hlt h0; omega
      · omega
    by_cases h3 : k < 3
    · by_cases hq : n - (k : Int) ≤ a
      · have hr : ripe a n = false := by simp [ripe]; omega
        have HR := Lib.hid hr
        clear hr hlt
        go_wp2
        go_ret
        exact ⟨by rw [HR.out]; rfl, rfl⟩
      · clear hlt
        go_wp2
        exact ⟨⟨k + 1, by omega, by go_num, by (congr 1; omega), fun _ => by omega⟩, by simp [intOf]; omega⟩
    · obtain rfl : k = 3 := by omega
      have h4 := hlt (by omega)
      clear hlt
      go_wp2
      go_ret
      refine ⟨ret_bool ?_, rfl⟩
      rw [Bool.eq_iff_iff]
      simp [ripe]
      omega
theorem small_waits {l : List (List (Int × Int))} {n : Nat} (h : waits l = n) (hn : Nat.ble n 10 = true := by rfl) : waits l ≤ 1000000000 := by have := Nat.le_of_ble_eq_true hn; omega
set_option maxHeartbeats 1600000 in
set_option maxRecDepth 100000 in
theorem EpochReady_walk (at_ : Int) (ha : -9223372036854775808 ≤ at_ ∧ at_ ≤ 9223372036854775807) (now : Int) (hn : -9223372036854775808 ≤ now ∧ now ≤ 9223372036854775807) (node : Int) (_ : -9223372036854775808 ≤ node ∧ node ≤ 9223372036854775807) (w : World) :
    Calls Try.prog 3 #[.int .i64 at_, .int .i64 now, .int .i64 node] w fun e w' => e = .returned (.bool true) ∧ Below w.heap.size w w' := by
  by_cases h0 : node = 0
  · subst h0
    go_enter Try.func3, Try.ntmps3
    go_wp2_with fail
    refine (Awake_calls _).mono ?_
    rintro e w1 ⟨rfl, F1⟩
    go_wp2_with fail
    go_ret
    exact ⟨rfl, F1.below (Nat.le_refl _) (fun _ x => x.elim)⟩
  have b0 : (node == 0) = false := by simp [h0]
  have b0' : (node != 0) = true := by simp [h0]
  have H0 := Lib.hid h0
  have HA := Lib.hid ha
  have HNn := Lib.hid hn
  clear h0 ha hn
  go_enter Try.func3, Try.ntmps3
  go_wp2_with fail
  refine (Awake_calls _).mono ?_
  rintro e w1 ⟨rfl, F1⟩
  go_wp2_with fail
  refine (New_calls 2 _).mono ?_
  rintro e w2 ⟨b, rfl, F2, E2⟩
  have S2 := wide_nob (c := w2) F1 rfl
  replace F2 := F1.trans F2 (fun _ _ x => x)
  clear F1
  go_wp2_with fail
  refine (Leave_yes E2 1 node at_ rfl [] rfl (by simp)).mono ?_
  rintro e w3 ⟨rfl, F3, E3⟩
  obtain ⟨F3, S3⟩ := F2.step F3 S2 rfl
  clear F2 E2 S2
  go_wp2_with fail
  refine (Ready_none E3 0 now (.inr rfl)).mono ?_
  rintro e w4 ⟨rfl, hw⟩
  have hw := hw.symm
  subst hw
  go_wp2_with fail
  refine (Limbo_calls E3 (small_waits rfl)).mono ?_
  rintro e w4 ⟨rfl, hw⟩
  have hw := hw.symm
  subst hw
  go_wp2_with fail
  by_cases h1 : at_ ≤ now
  · by_cases h2 : 3 ≤ now - at_
    · have hr : ripe at_ now = true := by simp [ripe]; omega
      have HR := Lib.hid hr
      clear hr
      refine (Ready_ripe E3 1 now rfl node at_ [] rfl HNn.out HA.out h1 h2).mono ?_
      rintro e w5 ⟨rfl, F5, E5⟩
      obtain ⟨F5, S5⟩ := F3.step F5 S3 rfl
      clear F3 E3 S3
      go_wp2_with fail
      refine (refReady_calls at_ now _ HNn.out HA.out).mono ?_
      rw [HR.out]
      rintro e w6 ⟨rfl, hw⟩
      have hw := hw.symm
      subst hw
      go_wp2_with fail
      refine (Limbo_calls E5 (small_waits rfl)).mono ?_
      rintro e w6 ⟨rfl, hw⟩
      have hw := hw.symm
      subst hw
      go_wp2_with fail
      refine (Ready_none E5 1 now (.inr rfl)).mono ?_
      rintro e w6 ⟨rfl, hw⟩
      have hw := hw.symm
      subst hw
      go_wp2_with fail
      go_ret
      exact ⟨rfl, F5.below (Nat.le_refl _) (fun _ x => x.elim)⟩
    · have hr : ripe at_ now = false := by simp [ripe]; omega
      have HR := Lib.hid hr
      clear hr
      refine (Ready_soon E3 1 now rfl node at_ [] rfl HNn.out HA.out h1 (by omega)).mono ?_
      rintro e w5 ⟨rfl, F5⟩
      have E5 := E3.fr F5 (fun _ _ x => x)
      replace F5 := F3.trans F5 (fun _ _ x => x)
      clear F3 E3 S3
      go_wp2_with fail
      refine (refReady_calls at_ now _ HNn.out HA.out).mono ?_
      rw [HR.out]
      rintro e w6 ⟨rfl, hw⟩
      have hw := hw.symm
      subst hw
      go_wp2_with fail
      refine (Limbo_calls E5 (small_waits rfl)).mono ?_
      rintro e w6 ⟨rfl, hw⟩
      have hw := hw.symm
      subst hw
      go_wp2_with fail
      go_ret
      exact ⟨rfl, F5.below (Nat.le_refl _) (fun _ x => x.elim)⟩
  · have hr : ripe at_ now = false := by simp [ripe]; omega
    have HR := Lib.hid hr
    clear hr
    refine (Ready_low E3 1 now rfl node at_ [] rfl HNn.out HA.out (by omega)).mono ?_
    rintro e w5 ⟨rfl, F5⟩
    have E5 := E3.fr F5 (fun _ _ x => x)
    replace F5 := F3.trans F5 (fun _ _ x => x)
    clear F3 E3 S3
    go_wp2_with fail
    refine (refReady_calls at_ now _ HNn.out HA.out).mono ?_
    rw [HR.out]
    rintro e w6 ⟨rfl, hw⟩
    have hw := hw.symm
    subst hw
    go_wp2_with fail
    refine (Limbo_calls E5 (small_waits rfl)).mono ?_
    rintro e w6 ⟨rfl, hw⟩
    have hw := hw.symm
    subst hw
    go_wp2_with fail
    go_ret
    exact ⟨rfl, F5.below (Nat.le_refl _) (fun _ x => x.elim)⟩
set_option maxHeartbeats 1600000 in
set_option maxRecDepth 100000 in
theorem EpochNil_walk (t : Int) (_ : -9223372036854775808 ≤ t ∧ t ≤ 9223372036854775807) (n : Int) (_ : -9223372036854775808 ≤ n ∧ n ≤ 9223372036854775807) (w : World) :
    Calls Try.prog 8 #[.int .i64 t, .int .i64 n] w fun e w' => e = .returned (.bool true) ∧ Below w.heap.size w w' := by
  go_enter Try.func8, Try.ntmps8
  go_wp2_with fail
  refine (Awake_calls _).mono ?_
  rintro e w1 ⟨rfl, F1⟩
  go_wp2_with fail
  refine (Say_nil t n _).mono ?_
  rintro e w2 ⟨rfl, hw⟩
  have hw := hw.symm
  subst hw
  go_wp2_with fail
  refine (Leave_nil t 5 n _).mono ?_
  rintro e w2 ⟨rfl, hw⟩
  have hw := hw.symm
  subst hw
  go_wp2_with fail
  refine (Now_nil _).mono ?_
  rintro e w2 ⟨rfl, hw⟩
  have hw := hw.symm
  subst hw
  go_wp2_with fail
  refine (Swap_nil n _).mono ?_
  rintro e w2 ⟨rfl, hw⟩
  have hw := hw.symm
  subst hw
  go_wp2_with fail
  refine (Said_nil t _).mono ?_
  rintro e w2 ⟨rfl, hw⟩
  have hw := hw.symm
  subst hw
  go_wp2_with fail
  refine (Len_nil _).mono ?_
  rintro e w2 ⟨rfl, hw⟩
  have hw := hw.symm
  subst hw
  go_wp2_with fail
  refine (Ready_nil t n _).mono ?_
  rintro e w2 ⟨rfl, hw⟩
  have hw := hw.symm
  subst hw
  go_wp2_with fail
  refine (Limbo_nil _).mono ?_
  rintro e w2 ⟨rfl, hw⟩
  have hw := hw.symm
  subst hw
  go_wp2_with fail
  go_ret
  exact ⟨rfl, F1.below (Nat.le_refl _) (fun _ x => x.elim)⟩
end Go.Proofs.Ytnoioldbddjkiaa
