/- EpochOrder: the law's walk. No condition but that the slices can be read and their numbers are of 8 bits. -/
import Derived.Test.YtnoioldbddjkiaaWEp3
namespace Go.Proofs.Ytnoioldbddjkiaa
open Go Go.RowKit
set_option linter.unusedVariables false
set_option linter.unusedSimpArgs false
theorem set_same {α : Type} (l : List α) (i : Nat) (x : α) (h : l[i]? = some x) : l.set i x = l := by
  obtain ⟨hi, rfl⟩ := List.getElem?_eq_some_iff.1 h
  exact List.set_getElem_self hi
theorem Epo.wider {S F : Nat → Prop} {w w' : World} {b : Nat} {now : Int} {said : List Int} {limbo : List (List (Int × Int))} (h : Epo w b S now said limbo) (hf : Fr F w w') (hn : ∀ k, S k → ¬ F k) : Epo w' b (wide S w w') now said limbo :=
  (h.fr hf hn).more (fun k hk => .inl hk) (fun k hk => by
    rcases hk with hk | hk
    · exact (h.fr hf hn).lt k hk
    · exact hk.2)
theorem Ready_ask {S : Nat → Prop} {w : World} {b : Nat} {now : Int} {said : List Int} {limbo : List (List (Int × Int))} (h : Epo w b S now said limbo) (t n : Int) (ht : isT t said.length = true) (node at_ : Int) (l : List (Int × Int)) (hl0 : limbo[t.toNat]? = some ((node, at_) :: l))
    (hn : -9223372036854775808 ≤ n ∧ n ≤ 9223372036854775807) (ha : -9223372036854775808 ≤ at_ ∧ at_ ≤ 9223372036854775807) :
    Calls Try.prog 12 #[.pointer (some ⟨b, 0, none⟩), .int .i64 t, .int .i64 n] w fun e w' => Fr S w w' ∧
      ((ripe at_ n = true ∧ e = .returned (.int .i64 node) ∧ Epo w' b (wide S w w') now said (limbo.set t.toNat l)) ∨ (ripe at_ n = false ∧ e = .returned (.int .i64 0) ∧ Epo w' b (wide S w w') now said limbo)) := by
  by_cases h1 : at_ ≤ n
  · by_cases h2 : 3 ≤ n - at_
    · refine (Ready_ripe h t n ht node at_ l hl0 hn ha h1 h2).mono ?_
      rintro e w' ⟨rfl, F, E⟩
      exact ⟨F, .inl ⟨by simp [ripe]; omega, rfl, E⟩⟩
    · refine (Ready_soon h t n ht node at_ l hl0 hn ha h1 (by omega)).mono ?_
      rintro e w' ⟨rfl, F⟩
      exact ⟨F.mono (fun _ _ x => x.elim), .inr ⟨by simp [ripe]; omega, rfl, h.wider F (fun _ _ x => x)⟩⟩
  · refine (Ready_low h t n ht node at_ l hl0 hn ha (by omega)).mono ?_
    rintro e w' ⟨rfl, F⟩
    exact ⟨F.mono (fun _ _ x => x.elim), .inr ⟨by simp [ripe]; omega, rfl, h.wider F (fun _ _ x => x)⟩⟩
/-- Nodes 1, 2, .. that went at these times. -/
def letGo (xs : List Int) : List (Int × Int) := xs.mapIdx fun i a => ((i : Int) + 1, a)
theorem letGo_length (xs : List Int) : (letGo xs).length = xs.length := by simp [letGo]
theorem letGo_take (xs : List Int) (k : Nat) (hk : k < xs.length) : letGo (xs.take (k + 1)) = letGo (xs.take k) ++ [((k : Int) + 1, xs.getD k 0)] := by
  rw [List.take_succ_eq_append_getElem hk, letGo, letGo, List.mapIdx_append]
  simp only [List.mapIdx_cons, List.mapIdx_nil, List.length_take, Nat.min_eq_left (Nat.le_of_lt hk), List.getD, List.getElem?_eq_getElem hk, Option.getD_some, Nat.zero_add]
theorem letGo_drop (xs : List Int) (k : Nat) (hk : k < xs.length) : (letGo xs).drop k = ((k : Int) + 1, xs.getD k 0) :: (letGo xs).drop (k + 1) := by
  rw [List.drop_eq_getElem_cons (by rw [letGo_length]; exact hk)]
  simp [letGo, List.getD, List.getElem?_eq_getElem hk]
set_option maxHeartbeats 1600000 in
set_option maxRecDepth 100000 in
theorem EpochOrder_walk (v0 : Value) (xs : List Int) (v1 : Value) (ys : List Int) (w : World) (R0 : RdV w v0 xs.length 1 (xs.map (Value.int .u8))) (hx : ∀ n ∈ xs, (Lit.int .u8 n).wf = true) (R1 : RdV w v1 ys.length 1 (ys.map (Value.int .u8))) (hy : ∀ n ∈ ys, (Lit.int .u8 n).wf = true) :
    Calls Try.prog 4 #[v0, v1] w fun e w' => e = .returned (.bool true) ∧ Below w.heap.size w w' := by
  have hm0 := R0.short
  have hm1 := R1.short
  obtain ⟨a0, c0, rfl⟩ := R0.len
  obtain ⟨a1, c1, rfl⟩ := R1.len
  have HR0 := Lib.hid R0
  have HR1 := Lib.hid R1
  have bx : ∀ k, 0 ≤ xs.getD k 0 ∧ xs.getD k 0 ≤ 255 := fun k => by
    by_cases hk : k < xs.length
    · have := bounds_u8 (hx xs[k] (List.getElem_mem hk))
      simpa [List.getD, List.getElem?_eq_getElem hk] using this
    · simp [List.getD, List.getElem?_eq_none (show xs.length ≤ k by omega)]
  have by_ : ∀ k, 0 ≤ ys.getD k 0 ∧ ys.getD k 0 ≤ 255 := fun k => by
    by_cases hk : k < ys.length
    · have := bounds_u8 (hy ys[k] (List.getElem_mem hk))
      simpa [List.getD, List.getElem?_eq_getElem hk] using this
    · simp [List.getD, List.getElem?_eq_none (show ys.length ≤ k by omega)]
  have BX := Lib.hid bx
  have BY := Lib.hid by_
  clear R0 R1 hx hy bx by_
  generalize hN : xs.length = N at *
  have HN := Lib.hid hN
  generalize hM : ys.length = M at *
  have HM := Lib.hid hM
  clear hN hM
  go_enter Try.func4, Try.ntmps4
  go_wp2_with fail
  refine (Awake_calls _).mono ?_
  rintro e w1 ⟨rfl, F1⟩
  by_cases h40 : 40 < N
  · go_wp2_with fail
    go_ret
    exact ⟨rfl, F1.below (Nat.le_refl _) (fun _ x => x.elim)⟩
  by_cases h60 : 60 < M
  · go_wp2_with fail
    go_ret
    exact ⟨rfl, F1.below (Nat.le_refl _) (fun _ x => x.elim)⟩
  go_wp2_with fail
  refine (New_calls 1 _).mono ?_
  rintro e w2 ⟨b, rfl, F2, E2⟩
  have S2 := wide_nob (c := w2) F1 rfl
  replace F2 := F1.trans F2 (fun _ _ x => x)
  clear F1
  go_wp2_with fail
  generalize wide nob w1 w2 = S at *
  go_loopw [26] (fun i wr => ∃ (k : Nat) (S : Nat → Prop), k ≤ N ∧ i = .int .i64 k ∧ Fr nob w wr ∧ (∀ j, S j → w.heap.size ≤ j) ∧ Epo wr b S 0 [-1] [letGo (xs.take k)]) (fun i _ => N - (intOf i).toNat)
  case atStart => exact ⟨0, S, Nat.zero_le _, rfl, F2, S2, E2⟩
  case round =>
    obtain ⟨k, S, hk, rfl, F3, S3, E3⟩ := hrel
    by_cases hlt : k < N
    · have R3 := HR0.out.fr F3 (fun _ _ _ x => x)
      obtain ⟨a, rfl, hc, hat⟩ := R3.at (by omega)
      have hc3 := hat k (.int .u8 (xs.getD k 0)) (by simp [List.getD, List.getElem?_eq_getElem (show k < xs.length by have := HN.out; omega)])
      have bk := BX.out k
      have hkk : k < xs.length := by have := HN.out; omega
      have hl := letGo_take xs k hkk
      have HL := Lib.hid hl
      clear hat R3 hl hkk
      generalize xs.getD k 0 = x at *
      obtain ⟨b0, b1⟩ := bk
      go_wp2_with fail
      refine (Leave_yes E3 0 ((k : Int) + 1) x rfl _ rfl (by rw [letGo_length, List.length_take]; omega)).mono ?_
      rintro e w4 ⟨rfl, F4, E4⟩
      obtain ⟨F4, S4⟩ := F3.step F4 S3 rfl
      go_wp2_with fail
      exact ⟨⟨k + 1, _, by omega, by go_num, F4, S4, by rw [HL.out]; exact E4⟩, by simp [intOf]; omega⟩
    · have hE : Epo wr b S 0 [-1] [(letGo xs).drop 0] := by
        have : xs.take k = xs := List.take_of_length_le (by have := HN.out; omega)
        rw [this] at E3
        exact E3
      clear E3
      go_wp2_with fail
      go_loopw [8, 40] (fun nx i wr => ∃ (n k : Nat) (S : Nat → Prop), k ≤ M ∧ i = .int .i64 k ∧ n ≤ N ∧ nx = .int .i64 n ∧ Fr nob w wr ∧ (∀ j, S j → w.heap.size ≤ j) ∧ Epo wr b S 0 [-1] [(letGo xs).drop n]) (fun _ i _ => M - (intOf i).toNat)
      case atStart => exact ⟨0, 0, S, Nat.zero_le _, rfl, Nat.zero_le _, rfl, F3, S3, hE⟩
      case round =>
        clear hE F3 S3
        obtain ⟨n, j, S, hj, rfl, hn, rfl, F3, S3, E3⟩ := hrel
        by_cases hjm : j < M
        · have R3 := HR1.out.fr F3 (fun _ _ _ x => x)
          obtain ⟨a, rfl, hc, hat⟩ := R3.at (by omega)
          have hc3 := hat j (.int .u8 (ys.getD j 0)) (by simp [List.getD, List.getElem?_eq_getElem (show j < ys.length by have := HM.out; omega)])
          obtain ⟨b0, b1⟩ := BY.out j
          clear hat R3
          generalize ys.getD j 0 = y at *
          by_cases hnn : n < N
          · have hkk : n < xs.length := by have := HN.out; omega
            have hd := letGo_drop xs n hkk
            obtain ⟨d0, d1⟩ := BX.out n
            have HD := Lib.hid hd
            rw [hd] at E3
            clear hd
            go_wp2_with fail
            refine (Ready_ask E3 0 y rfl ((n : Int) + 1) (xs.getD n 0) _ rfl (by omega) (by omega)).mono ?_
            rintro e w4 ⟨F4, h4⟩
            have F5 := F4
            obtain ⟨F4, S4⟩ := F3.step F4 S3 rfl
            have R3 := HR0.out.fr F4 (fun _ _ _ x => x)
            obtain ⟨a', rfl, hc', hat⟩ := R3.at (by omega)
            have hc4 := hat n (.int .u8 (xs.getD n 0)) (by simp [List.getD, List.getElem?_eq_getElem hkk])
            clear hat R3 hc3 hkk
            have hs : ∀ l, ([((n : Int) + 1, xs.getD n 0) :: (letGo xs).drop (n + 1)] : List (List (Int × Int))).set (0 : Int).toNat l = [l] := fun l => rfl
            rw [hs] at h4
            have hd := HD.out
            generalize hrest : (letGo xs).drop (n + 1) = rest at *
            generalize xs.getD n 0 = x at *
            have HD := Lib.hid (And.intro hd hrest)
            clear hd hrest
            clear hs
            rcases h4 with ⟨hr, rfl, E4⟩ | ⟨hr, rfl, E4⟩
            · have h3 : x + 3 ≤ y := by simp [ripe] at hr; omega
              clear hr
              go_wp2_with fail
              exact ⟨⟨n + 1, j + 1, _, by omega, by go_num, by omega, by go_num, F4, S4, by rw [HD.out.2]; exact E4⟩, by simp [intOf]; omega⟩
            · have h3 : ¬ (x + 3 ≤ y) := by simp [ripe] at hr; omega
              clear hr
              go_wp2_with fail
              exact ⟨⟨n, j + 1, _, by omega, by go_num, by omega, rfl, F4, S4, by rw [HD.out.1]; exact E4⟩, by simp [intOf]; omega⟩
          · obtain rfl : n = N := by omega
            have hnil : (letGo xs).drop n = [] := List.drop_eq_nil_of_le (by rw [letGo_length, HN.out]; exact Nat.le_refl _)
            have HD := Lib.hid hnil
            rw [hnil] at E3
            clear hnil
            go_wp2_with fail
            refine (Ready_none E3 0 y (.inr rfl)).mono ?_
            rintro e w4 ⟨rfl, hw⟩
            have hw := hw.symm
            subst hw
            go_wp2_with fail
            exact ⟨⟨n, j + 1, _, by omega, by go_num, by omega, rfl, F3, S3, by rw [HD.out]; exact E3⟩, by simp [intOf]; omega⟩
        · go_wp2_with fail
          refine (Limbo_is E3 (N - n) (by unfold waits; simp [letGo_length, HN.out]) (by omega)).mono ?_
          rintro e w4 ⟨rfl, hw⟩
          have hw := hw.symm
          subst hw
          rw [show ((N - n : Nat) : Int) = (N : Int) - n from by omega]
          go_wp2_with fail
          go_ret
          refine ⟨?_, F3.below (Nat.le_refl _) (fun _ x => x.elim)⟩
          first | rfl | exact ret_bool (by simp)
end Go.Proofs.Ytnoioldbddjkiaa
