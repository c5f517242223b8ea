/- EpochThreads: the law's walk. No condition but that the numbers are of 64 bits. -/
import Derived.Test.YtnoioldbddjkiaaWEp1
namespace Go.Proofs.Ytnoioldbddjkiaa
open Go Go.RowKit
set_option linter.unusedVariables false
set_option linter.unusedSimpArgs false
theorem Said_is {S : Nat → Prop} {w : World} {b : Nat} {now : Int} {said : List Int} {limbo : List (List (Int × Int))} (h : Epo w b S now said limbo) (t v : Int) (hv : (if isT t said.length then said.getD t.toNat 0 else -1) = v) :
    Calls Try.prog 18 #[.pointer (some ⟨b, 0, none⟩), .int .i64 t] w fun e w' => e = .returned (.int .i64 v) ∧ w' = w := by
  rw [← hv]
  exact Said_calls h t
theorem Limbo_is {S : Nat → Prop} {w : World} {b : Nat} {now : Int} {said : List Int} {limbo : List (List (Int × Int))} (h : Epo w b S now said limbo) (v : Nat) (hv : waits limbo = v) (hsz : v ≤ 1000000000) :
    Calls Try.prog 13 #[.pointer (some ⟨b, 0, none⟩)] w fun e w' => e = .returned (.int .i64 v) ∧ w' = w := by
  subst hv
  exact Limbo_calls h hsz
theorem waits_new (n : Nat) : waits (List.replicate n []) = 0 := by
  induction n with
  | zero => rfl
  | succ n ih => rw [List.replicate_succ]; unfold waits at *; rw [List.map_cons, List.sum_cons, ih]; rfl
theorem waits_one (x : Int × Int) (n i : Nat) (h : i < n) : waits ((List.replicate n []).set i [x]) = 1 := by
  induction n generalizing i with
  | zero => omega
  | succ n ih =>
    rw [List.replicate_succ]
    cases i with
    | zero => have := waits_new n; unfold waits at *; rw [List.set_cons_zero, List.map_cons, List.sum_cons, this]; rfl
    | succ i => have := ih i (by omega); unfold waits at *; rw [List.set_cons_succ, List.map_cons, List.sum_cons, this]; rfl
set_option maxHeartbeats 1600000 in
set_option maxRecDepth 100000 in
theorem EpochThreads_walk (threads : Int) (ha : -9223372036854775808 ≤ threads ∧ threads ≤ 9223372036854775807) (t : Int) (hn : -9223372036854775808 ≤ t ∧ t ≤ 9223372036854775807) (n : Int) (_ : -9223372036854775808 ≤ n ∧ n ≤ 9223372036854775807) (w : World) :
    Calls Try.prog 6 #[.int .i64 threads, .int .i64 t, .int .i64 n] w fun e w' => e = .returned (.bool true) ∧ Below w.heap.size w w' := by
  obtain ⟨ha0, ha1⟩ := ha
  obtain ⟨hn0, hn1⟩ := hn
  go_enter Try.func6, Try.ntmps6
  go_wp2_with fail
  refine (Awake_calls _).mono ?_
  rintro e w1 ⟨rfl, F1⟩
  go_wp2_with fail
  refine (New_calls threads _).mono ?_
  rintro e w2 ⟨b, rfl, F2, E2⟩
  have S2 := wide_nob (c := w2) F1 rfl
  replace F2 := F1.trans F2 (fun _ _ x => x)
  clear F1
  go_upto_region 4 with fail
  go_cut [8] (fun s8 wx => s8 = .int .i64 (many threads) ∧ wx = w2)
  case first =>
    go_wp2_with fail
    all_goals
      go_meet
      refine ⟨?_, rfl⟩
      unfold many
      first | rw [show ((min (max threads 0) 64).toNat : Int) = 0 from by omega] | rw [show ((min (max threads 0) 64).toNat : Int) = 64 from by omega] | rw [show ((min (max threads 0) 64).toNat : Int) = threads from by omega]
  case rest =>
    obtain ⟨rfl, hw⟩ := hcut
    have hw := hw.symm
    subst hw
    have hN : many threads ≤ 64 := by unfold many; omega
    clear ha0 ha1
    generalize hNN : many threads = N at *
    have HNN := Lib.hid hNN
    clear hNN
    have e0 : (if isT t (List.replicate N (-1 : Int)).length then (List.replicate N (-1 : Int)).getD t.toNat 0 else -1) = -1 := by
      split
      · rename_i h
        have := isT_true h
        simp at this
        simp [List.getD, List.getElem?_replicate, show t.toNat < N from by omega]
      · rfl
    have HE0 := Lib.hid e0
    clear e0
    have el : ((List.replicate N (-1 : Int)).length : Int) = N := by simp
    have HEL := Lib.hid el
    clear el
    go_wp2_with fail
    refine (Len_calls E2).mono ?_
    rw [HEL.out]
    rintro e w3 ⟨rfl, hw⟩
    have hw := hw.symm
    subst hw
    go_wp2_with fail
    refine (Said_is E2 t (-1) HE0.out).mono ?_
    rintro e w3 ⟨rfl, hw⟩
    have hw := hw.symm
    subst hw
    go_wp2_with fail
    refine (Now_calls E2).mono ?_
    rintro e w3 ⟨rfl, hw⟩
    have hw := hw.symm
    subst hw
    go_wp2_with fail
    refine (Say_calls E2 t n).mono ?_
    rintro e w3 ⟨rfl, F3, E3⟩
    obtain ⟨F3, S3⟩ := F2.step F3 S2 rfl
    go_wp2_with fail
    cases hT : isT t N with
    | false =>
      rw [show isT t (List.replicate N (-1 : Int)).length = false from by simp [hT]] at E3
      have HT := Lib.hid hT
      have ht := isT_false hT
      clear hT
      refine (Leave_no E3 t 5 n (by simp [HT.out])).mono ?_
      rintro e w4 ⟨rfl, hw⟩
      have hw := hw.symm
      subst hw
      by_cases h0 : t < 0
      · clear ht
        go_wp2_with fail
        refine (Said_is E3 t (-1) (by simp [HT.out])).mono ?_
        rintro e w4 ⟨rfl, hw⟩
        have hw := hw.symm
        subst hw
        go_wp2_with fail
        refine (Limbo_is E3 0 (waits_new _) (by decide)).mono ?_
        rintro e w4 ⟨rfl, hw⟩
        have hw := hw.symm
        subst hw
        go_wp2_with fail
        go_ret
        exact ⟨rfl, F3.below (Nat.le_refl _) (fun _ x => x.elim)⟩
      · have h1 : (N : Int) ≤ t := by omega
        clear ht
        go_wp2_with fail
        refine (Said_is E3 t (-1) (by simp [HT.out])).mono ?_
        rintro e w4 ⟨rfl, hw⟩
        have hw := hw.symm
        subst hw
        go_wp2_with fail
        refine (Limbo_is E3 0 (waits_new _) (by decide)).mono ?_
        rintro e w4 ⟨rfl, hw⟩
        have hw := hw.symm
        subst hw
        go_wp2_with fail
        go_ret
        exact ⟨rfl, F3.below (Nat.le_refl _) (fun _ x => x.elim)⟩
    | true =>
      rw [show isT t (List.replicate N (-1 : Int)).length = true from by simp [hT], if_pos rfl] at E3
      have HT := Lib.hid hT
      obtain ⟨h0, h1⟩ := isT_true hT
      clear hT
      have hlt : t.toNat < N := by omega
      have HL := Lib.hid hlt
      clear hlt
      refine (Leave_yes E3 t 5 n (by simp [HT.out]) [] (by simp [HL.out]) (by simp)).mono ?_
      rintro e w4 ⟨rfl, F4, E4⟩
      obtain ⟨F4, S4⟩ := F3.step F4 S2 rfl
      go_wp2_with fail
      refine (Said_is E4 t n (by simp [HT.out, HL.out])).mono ?_
      rintro e w5 ⟨rfl, hw⟩
      have hw := hw.symm
      subst hw
      go_wp2_with fail
      refine (Limbo_is E4 1 (waits_one _ _ _ HL.out) (by decide)).mono ?_
      rintro e w5 ⟨rfl, hw⟩
      have hw := hw.symm
      subst hw
      go_wp2_with fail
      go_ret
      exact ⟨rfl, F4.below (Nat.le_refl _) (fun _ x => x.elim)⟩
end Go.Proofs.Ytnoioldbddjkiaa
