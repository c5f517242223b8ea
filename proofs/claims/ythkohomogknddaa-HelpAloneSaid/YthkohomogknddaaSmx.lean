/- Mixed: threads stepped in some order, then each brought to its end. No condition but on their plain laws. -/
import Derived.Test.YthkohomogknddaaSys
namespace Go.Proofs.Ythkohomogknddaa
open Go Go.RowKit
set_option linter.unusedVariables false
set_option linter.unusedSimpArgs false
set_option maxRecDepth 100000
def ptrs (ws : List Wkr) : List Value := ws.map fun x => .pointer (some ⟨x.b + 3, 0, none⟩)
section
variable {g : Game} {c : Wc} {w0 w : World} {ws : List Wkr} {Z X : List Piece} {N : Nat} {s : Wd} {Ts : List Th}
theorem Squad.row (h : Squad g c w0 ws Z w N s Ts X) {j : Nat} {t : TypeId} {sz n : Nat} {v : Value} {us : List Value} (hj : X[j]? = some (rowP t sz v n us)) : QRow w t sz v n us := by
  refine h.heap.row ((wdL c s ++ (Z ++ allG c ws Ts)).length + j) ?_
  rw [List.getElem?_append_right (by omega), Nat.add_sub_cancel_left]
  exact hj
theorem ptrs_get {ws : List Wkr} {i : Nat} {x : Wkr} (hx : ws[i]? = some x) : (ptrs ws)[i]? = some (.pointer (some ⟨x.b + 3, 0, none⟩)) := by simp [ptrs, hx]
set_option maxHeartbeats 4000000 in
theorem Mixed_sys (h : Squad g c w0 ws Z w N s Ts X) (hg : g.plays ws) (hall : ∀ (i : Nat) (x : Wkr), ws[i]? = some x → x.does c g w0) (hm1 : 1 ≤ ws.length) (hmx : ws.length ≤ 10) {la : Option Addr} {lc jr : Nat} (hrow : X[jr]? = some (rowP 38 1 (.slice la ws.length lc) ws.length (ptrs ws)))
    (vo : Value) (ys : List Int) (ro : RdV w0 vo ys.length 1 (ys.map (Value.int .u8))) (hy : ∀ n ∈ ys, 0 ≤ n ∧ n ≤ 255) (hys : ys.length ≤ 1000) (hmu : ∀ i l s, g.P i l s → g.m i l s ≤ 2000) (hN : N ≤ 10000) :
    Calls Try.prog 55 #[.slice la ws.length lc, vo] w fun e w' => ∃ (s' : Wd) (Ts' : List Th) (Y : List Piece) (N' : Nat), N' ≤ N + ys.length + 2001 * ws.length ∧ e = .returned (.bool true) ∧ Squad g c w0 ws Z w' N' s' Ts' (X ++ Y) ∧ ∀ (i : Nat) (T : Th), Ts'[i]? = some T → T.done = true := by
  obtain ⟨pa, pc, rfl⟩ := ro.len
  have HG := Lib.hid (And.intro hg (And.intro hall hmu))
  have HR := Lib.hid hrow
  have HO := Lib.hid (And.intro ro hy)
  have HS : Hid (∃ s1 Ts1 Y, Squad g c w0 ws Z w (N + 0) s1 Ts1 (X ++ Y)) := Lib.hid ⟨s, Ts, [], by rw [List.append_nil]; exact h⟩
  have hne : (((ws.length : Nat) : Int) == 0) = false := beq_eq_false_iff_ne.2 (by omega)
  clear h hg hall hmu hrow ro hy
  generalize hm : ws.length = m at *
  go_enter Try.func55, Try.ntmps55
  go_wp2_with fail
  clear hne
  go_loopw [17] (fun i wr => ∃ k : Nat, i = .int .i64 (k : Nat) ∧ k ≤ ys.length ∧ Hid (∃ s1 Ts1 Y, Squad g c w0 ws Z wr (N + k) s1 Ts1 (X ++ Y))) (fun i _ => ys.length - (intOf i).toNat)
  case atStart => exact ⟨0, rfl, Nat.zero_le _, HS⟩
  case round =>
    clear HS
    obtain ⟨k, rfl, hk, HS⟩ := hrel
    by_cases hlt : k < ys.length
    · obtain ⟨s1, Ts1, Y, hs⟩ := HS.out
      obtain ⟨a1, ea, hc1, hat1⟩ := (HO.out.1.fr hs.heap.fr (fun _ _ _ x => x)).at (by omega)
      have ea : pa = some a1 := by simpa using ea
      obtain ⟨y, hyk⟩ : ∃ y, ys[k]? = some y := ⟨_, List.getElem?_eq_getElem hlt⟩
      have y1 := hat1 k (.int .u8 y) (by simp [hyk])
      have hyb := HO.out.2 y (List.mem_of_getElem? hyk)
      obtain ⟨y0, y255⟩ := hyb
      obtain ⟨t, ht⟩ : ∃ t : Nat, y % (m : Int) = (t : Int) := ⟨(y % (m : Int)).toNat, by have := Int.emod_nonneg y (b := (m : Int)) (by omega); omega⟩
      have htl : t < m := by have := Int.emod_lt_of_pos y (b := (m : Int)) (by omega); omega
      obtain ⟨x, hx⟩ : ∃ x, ws[t]? = some x := ⟨_, List.getElem?_eq_getElem (by omega)⟩
      obtain ⟨T, hT⟩ := hs.get hx
      have C := Lib.hid (Step_sys hs HG.out.1 hx hT (HG.out.2.1 t x hx) (by omega))
      obtain ⟨a2, ea2, hc2, hat2⟩ := (hs.row (get_left HR.out)).rdv.at (by omega)
      have ea2 : la = some a2 := by simpa using ea2
      have y2 := hat2 t _ (ptrs_get hx)
      subst ea ea2
      have hm0 : ((m : Int) == 0) = false := by simp; omega
      clear hs hat1 hat2 hyk hc1 hc2 hx hT HS
      go_wp2_with fail
      try simp only [ht]
      refine C.out.mono ?_
      rintro e w2 ⟨b, s2, T2, Y2, rfl, H2, _⟩
      rw [List.append_assoc] at H2
      have HQ : Hid (∃ s1 Ts1 Y, Squad g c w0 ws Z w2 (N + (k + 1)) s1 Ts1 (X ++ Y)) := Lib.hid ⟨_, _, _, H2⟩
      clear C H2 y1 y2
      go_wp2_with fail
      exact ⟨⟨k + 1, by go_num, by omega, HQ⟩, by simp [intOf]; omega⟩
    · have HS2 : Hid (∃ s1 Ts1 Y N1, N1 ≤ N + ys.length + 2001 * 0 ∧ Squad g c w0 ws Z wr N1 s1 Ts1 (X ++ Y) ∧ ∀ i, i < 0 → ∃ T, Ts1[i]? = some T ∧ T.done = true) := by
        obtain ⟨s1, Ts1, Y, hs⟩ := HS.out
        exact Lib.hid ⟨s1, Ts1, Y, _, by omega, hs, fun i hi => by omega⟩
      clear HS
      rename World => w8
      go_wp2_with fail
      clear hlt hk
      go_loopw [33] (fun i wr => ∃ k : Nat, i = .int .i64 (k : Nat) ∧ k ≤ m ∧ Hid (∃ s1 Ts1 Y N1, N1 ≤ N + ys.length + 2001 * k ∧ Squad g c w0 ws Z wr N1 s1 Ts1 (X ++ Y) ∧ ∀ i, i < k → ∃ T, Ts1[i]? = some T ∧ T.done = true)) (fun i _ => m - (intOf i).toNat)
      case atStart => exact ⟨0, rfl, Nat.zero_le _, HS2⟩
      case round =>
        clear HS2
        obtain ⟨k, rfl, hk, HS⟩ := hrel
        by_cases hlt : k < m
        · obtain ⟨s1, Ts1, Y, N1, hN1, hs, hdn⟩ := HS.out
          obtain ⟨x, hx⟩ : ∃ x, ws[k]? = some x := ⟨_, List.getElem?_eq_getElem (by omega)⟩
          obtain ⟨T, hT⟩ := hs.get hx
          have C := Lib.hid (Alone_sys hs HG.out.1 hx hT (HG.out.2.1 k x hx) (by omega) (fun hd => HG.out.2.2 _ _ _ ((hs.ths k x T hx hT).goes hd).1))
          obtain ⟨a2, ea2, hc2, hat2⟩ := (hs.row (get_left HR.out)).rdv.at (by omega)
          have ea2 : la = some a2 := by simpa using ea2
          have y2 := hat2 k _ (ptrs_get hx)
          subst ea2
          have HD := Lib.hid hdn
          clear hs hat2 hc2 hx hT HS hdn
          go_wp2_with fail
          refine C.out.mono ?_
          rintro e w2 ⟨v9, q9, s2, Ts2, Y2, T2, rfl, H2, h2i, h2d, hkept, _⟩
          rw [List.append_assoc] at H2
          have HQ : Hid (∃ s1 Ts1 Y N1, N1 ≤ N + ys.length + 2001 * (k + 1) ∧ Squad g c w0 ws Z w2 N1 s1 Ts1 (X ++ Y) ∧ ∀ i, i < k + 1 → ∃ T, Ts1[i]? = some T ∧ T.done = true) := Lib.hid ⟨_, _, _, _, by omega, H2, fun i hi => by
            rcases (by omega : i < k ∨ i = k) with h | rfl
            · obtain ⟨U, h3, h4⟩ := HD.out i h
              exact hkept i U h3 h4
            · exact ⟨T2, h2i, h2d⟩⟩
          clear C H2 y2 h2i h2d hkept HD
          go_wp2_with fail
          exact ⟨⟨k + 1, by go_num, by omega, HQ⟩, by simp [intOf]; omega⟩
        · have hkm : k = m := by omega
          subst hkm
          go_wp2_with fail
          go_ret
          obtain ⟨s1, Ts1, Y, N1, hN1, hs, hdn⟩ := HS.out
          exact ⟨s1, Ts1, Y, N1, hN1, rfl, hs, fun i T hT => by
            have hi : i < k := by have h1 := (List.getElem?_eq_some_iff.1 hT).1; have h2 := hs.len; omega
            obtain ⟨U, h3, h4⟩ := hdn i hi
            rw [hT] at h3
            injection h3 with h3
            rw [h3]; exact h4⟩
end
end Go.Proofs.Ythkohomogknddaa
