/- EpochSwaps: the law's walk. No condition but that the slice can be read and its numbers are of 64 bits. -/
import Derived.Test.YtnoioldbddjkiaaWEp2
import Derived.Test.YtnoioldbddjkiaaRead
namespace Go.Proofs.Ytnoioldbddjkiaa
open Go Go.RowKit
set_option linter.unusedVariables false
set_option linter.unusedSimpArgs false
theorem Swap_yes {S : Nat → Prop} {w : World} {b : Nat} {now : Int} {said : List Int} {limbo : List (List (Int × Int))} (h : Epo w b S now said limbo) (hb : 0 ≤ now ∧ now ≤ 9000000000000000000) :
    Calls Try.prog 15 #[.pointer (some ⟨b, 0, none⟩), .int .i64 now] w fun e w' => e = .returned (.bool true) ∧ Fr S w w' ∧ Epo w' b S (now + 1) said limbo := by
  have := Swap_calls h now hb
  rwa [decide_eq_true rfl, if_pos rfl] at this
theorem Swap_no {S : Nat → Prop} {w : World} {b : Nat} {now : Int} {said : List Int} {limbo : List (List (Int × Int))} (h : Epo w b S now said limbo) (n : Int) (hn : now ≠ n) (hb : 0 ≤ now ∧ now ≤ 9000000000000000000) :
    Calls Try.prog 15 #[.pointer (some ⟨b, 0, none⟩), .int .i64 n] w fun e w' => e = .returned (.bool false) ∧ Fr S w w' ∧ Epo w' b S now said limbo := by
  have := Swap_calls h n hb
  rwa [decide_eq_false hn, if_neg hn] at this
set_option maxHeartbeats 1600000 in
set_option maxRecDepth 100000 in
theorem EpochSwaps_walk (v : Value) (xs : List Int) (w : World) (R : RdV w v xs.length 1 (xs.map (Value.int .i64))) (hx : ∀ n ∈ xs, (Lit.int .i64 n).wf = true) :
    Calls Try.prog 5 #[v] w fun e w' => e = .returned (.bool true) ∧ Below w.heap.size w w' := by
  have hm := R.short
  obtain ⟨av, cv, rfl⟩ := R.len
  have HR := Lib.hid R
  clear R
  have HX := Lib.hid hx
  clear hx
  generalize hN : xs.length = N at *
  have HN := Lib.hid hN
  clear hN
  go_enter Try.func5, Try.ntmps5
  go_wp2_with fail
  refine (Awake_calls _).mono ?_
  rintro e w1 ⟨rfl, F1⟩
  by_cases h60 : 60 < N
  · go_wp2_with fail
    go_ret
    exact ⟨rfl, F1.below (Nat.le_refl _) (fun _ x => x.elim)⟩
  go_wp2_with fail
  refine (New_calls 1 _).mono ?_
  rintro e w2 ⟨b, rfl, F2, E2⟩
  have S2 := wide_nob (c := w2) F1 rfl
  replace F2 := F1.trans F2 (fun _ _ x => x)
  clear F1
  go_wp2_with fail
  generalize wide nob w1 w2 = S at *
  go_loopw [4, 15] (fun m i wr => ∃ (k : Nat) (now : Int), k ≤ N ∧ i = .int .i64 k ∧ m = .int .i64 now ∧ 0 ≤ now ∧ now ≤ k ∧ Fr nob w wr ∧ Epo wr b S now (List.replicate (many 1) (-1)) (List.replicate (many 1) [])) (fun _ i _ => N - (intOf i).toNat)
  case atStart => exact ⟨0, 0, Nat.zero_le _, rfl, rfl, by omega, by omega, F2, E2⟩
  case round =>
    obtain ⟨k, now, hk, rfl, rfl, h0, h1, F3, E3⟩ := hrel
    by_cases hlt : k < N
    · obtain ⟨a, rfl, hc, hat⟩ := HR.out.at (by omega)
      have hcell := hat k (.int .i64 (xs.getD k 0)) (by simp [List.getD, List.getElem?_eq_getElem (show k < xs.length by have := HN.out; omega)])
      have R3 := HR.out.fr F3 (fun _ _ _ x => x)
      obtain ⟨a', ha', _, hat'⟩ := R3.at (by omega)
      cases ha'
      have hc3 := hat' k (.int .i64 (xs.getD k 0)) (by simp [List.getD, List.getElem?_eq_getElem (show k < xs.length by have := HN.out; omega)])
      clear hat hat' hcell R3
      generalize xs.getD k 0 = x at *
      cases hev : ((k : Int) % 2 == 0) with
      | true =>
        go_wp2_with fail
        refine (Swap_yes E3 ⟨h0, by omega⟩).mono ?_
        rintro e w4 ⟨rfl, F4, E4⟩
        replace F4 := F3.trans F4 (fun j hj hx => absurd (S2 j hx) (by omega))
        go_wp2_with fail
        refine (Now_calls E4).mono ?_
        rintro e w5 ⟨rfl, hw⟩
        have hw := hw.symm
        subst hw
        go_wp2_with fail
        exact ⟨⟨k + 1, now + 1, by omega, by go_num, rfl, by omega, by omega, F4, E4⟩, by simp [intOf]; omega⟩
      | false =>
        by_cases hq : now = x
        · subst hq
          go_wp2_with fail
          refine (Swap_yes E3 ⟨h0, by omega⟩).mono ?_
          rintro e w4 ⟨rfl, F4, E4⟩
          replace F4 := F3.trans F4 (fun j hj hx => absurd (S2 j hx) (by omega))
          go_wp2_with fail
          refine (Now_calls E4).mono ?_
          rintro e w5 ⟨rfl, hw⟩
          have hw := hw.symm
          subst hw
          go_wp2_with fail
          exact ⟨⟨k + 1, now + 1, by omega, by go_num, rfl, by omega, by omega, F4, E4⟩, by simp [intOf]; omega⟩
        · go_wp2_with fail
          refine (Swap_no E3 x hq ⟨h0, by omega⟩).mono ?_
          rintro e w4 ⟨rfl, F4, E4⟩
          replace F4 := F3.trans F4 (fun j hj hx => absurd (S2 j hx) (by omega))
          have hq' : ¬ x = now := fun h => hq h.symm
          go_wp2_with fail
          refine (Now_calls E4).mono ?_
          rintro e w5 ⟨rfl, hw⟩
          have hw := hw.symm
          subst hw
          go_wp2_with fail
          exact ⟨⟨k + 1, now, by omega, by go_num, rfl, by omega, by omega, F4, E4⟩, by simp [intOf]; omega⟩
    · go_wp2_with fail
      refine (Swap_no E3 (now - 1) (by omega) ⟨h0, by omega⟩).mono ?_
      rintro e w4 ⟨rfl, F4, E4⟩
      replace F4 := F3.trans F4 (fun j hj hx => absurd (S2 j hx) (by omega))
      go_wp2_with fail
      refine (Swap_yes E4 ⟨h0, by omega⟩).mono ?_
      rintro e w5 ⟨rfl, F5, E5⟩
      replace F5 := F4.trans F5 (fun j hj hx => absurd (S2 j hx) (by omega))
      go_wp2_with fail
      refine (Now_calls E5).mono ?_
      rintro e w6 ⟨rfl, hw⟩
      have hw := hw.symm
      subst hw
      go_wp2_with fail
      go_ret
      exact ⟨rfl, F5.below (Nat.le_refl _) (fun _ x => x.elim)⟩
end Go.Proofs.Ytnoioldbddjkiaa
