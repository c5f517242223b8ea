/- The document's Many and Take. No condition but that there are such epochs. -/
import Derived.Test.YtnoioldbddjkiaaEpoH
namespace Go.Proofs.Ytnoioldbddjkiaa
open Go Go.RowKit
set_option linter.unusedVariables false
set_option linter.unusedSimpArgs false
set_option maxRecDepth 100000 in
theorem Many_calls {S : Nat → Prop} {w : World} {b : Nat} {now : Int} {said : List Int} {limbo : List (List (Int × Int))} (h : Rfo w b S now said limbo) (hsz : waits limbo ≤ 1000000000) :
    Calls Try.prog 22 #[.pointer (some ⟨b, 0, none⟩)] w fun e w' => e = .returned (.int .i64 (waits limbo)) ∧ w' = w := by
  obtain ⟨⟨vs, vl, qs, h1, h2, h3, h4, h5, h6, h7⟩, hh, hl, hs, hw⟩ := h
  obtain ⟨av, cl, rfl⟩ : ∃ a c, vl = .slice a limbo.length c := by
    rcases row_cells h4 with ⟨rfl, h0, _⟩ | ⟨g, cap, cur, rfl, _⟩
    · exact ⟨none, 0, by rw [h0]⟩
    · exact ⟨_, _, rfl⟩
  have c2 : w.cell? ⟨b, 2, none⟩ = some (.slice av limbo.length cl) := h1.cell 2
  have h64 : limbo.length ≤ 64 := by omega
  have K4 := Lib.hid h4
  have K6 := Lib.hid h6
  clear h1 h2 h3 h4 h5 h6 h7 hl hs hw
  go_enter Try.func22, Try.ntmps22
  go_wp2
  go_loop [3, 11] (fun s i => ∃ k : Nat, k ≤ limbo.length ∧ i = .int .i64 k ∧ s = .int .i64 (waits (limbo.take k))) (fun _ i => limbo.length - (intOf i).toNat)
  case atStart => exact ⟨0, Nat.zero_le _, rfl, rfl⟩
  case round =>
    obtain ⟨k, hk, rfl, rfl⟩ := hrel
    by_cases hlt : k < limbo.length
    · obtain ⟨gl, cap, hv⟩ := ownsRow_form K4.out (by omega)
      simp only [Value.slice.injEq] at hv
      obtain ⟨rfl, _, rfl⟩ := hv
      obtain ⟨l, hl⟩ : ∃ l, limbo[k]? = some l := ⟨_, List.getElem?_eq_getElem hlt⟩
      obtain ⟨q, hq, hr, _⟩ := K6.out k l hl
      obtain ⟨a, cp, rfl, _, _⟩ := hr.form
      obtain ⟨cq, _, _⟩ := ownsRow_get K4.out k _ hq
      have hst := waits_take limbo k l hl
      have hle := waits_le limbo (k + 1)
      have hb : (waits (limbo.take k) : Int) + (l.length : Int) ≤ 1000000000 := by omega
      have HS := Lib.hid hst
      clear hst hle hr hq hl
      go_wp2
      go_round
      case rel => exact ⟨k + 1, by omega, by go_num, by rw [HS.out]; go_num⟩
      case measure => simp [intOf]; omega
    · obtain rfl : k = limbo.length := by omega
      clear hlt hk
      go_wp2
      go_ret
      exact ⟨rfl, rfl⟩
theorem Take_none {S : Nat → Prop} {w : World} {b : Nat} {now : Int} {said : List Int} {limbo : List (List (Int × Int))} (h : Rfo w b S now said limbo) (t n : Int) (ht : isT t said.length = false ∨ limbo[t.toNat]? = some []) :
    Calls Try.prog 21 #[.pointer (some ⟨b, 0, none⟩), .int .i64 t, .int .i64 n] w fun e w' => e = .returned (.int .i64 0) ∧ w' = w := by
  obtain ⟨⟨vs, vl, qs, h1, h2, h3, h4, h5, h6, h7⟩, hh, hl, hs, hw⟩ := h
  obtain ⟨av, cv, rfl⟩ := form_own h2
  obtain ⟨al, cl, rfl⟩ := form_own h4
  have c1 : w.cell? ⟨b, 1, none⟩ = some (.slice av said.length cv) := h1.cell 1
  have c2 : w.cell? ⟨b, 2, none⟩ = some (.slice al limbo.length cl) := h1.cell 2
  cases hT : isT t said.length with
  | false =>
    have hn := isT_false hT
    by_cases h0 : t < 0
    · clear hn hT ht h1 h2 h3 h4 h5 h6 h7 hl hs hw
      go_enter Try.func21, Try.ntmps21
      go_wp2
      go_ret
      exact ⟨rfl, rfl⟩
    · have h1' : (said.length : Int) ≤ t := by omega
      clear hn hT ht h1 h2 h3 h4 h5 h6 h7 hl hs hw
      go_enter Try.func21, Try.ntmps21
      go_wp2
      go_ret
      exact ⟨rfl, rfl⟩
  | true =>
    obtain ⟨t0, t1⟩ := isT_true hT
    have ht : limbo[t.toNat]? = some [] := by
      rcases ht with ht | ht
      · rw [hT] at ht; cases ht
      · exact ht
    obtain ⟨q, hq, hr, _⟩ := h6 t.toNat [] ht
    obtain ⟨a, cap, rfl, _, _⟩ := hr.form
    rw [hs] at t1
    obtain ⟨gl, cap', hv⟩ := ownsRow_form h4 (by omega)
    simp only [Value.slice.injEq] at hv
    obtain ⟨rfl, _, rfl⟩ := hv
    obtain ⟨cq, fq, hti⟩ := ownsRow_get h4 t.toNat _ hq
    have t2 : t < (said.length : Int) := by omega
    clear hT ht h1 h2 h3 h4 h5 h6 h7 hl hs hw hr hq
    go_enter Try.func21, Try.ntmps21
    go_wp2
    go_ret
    exact ⟨rfl, rfl⟩
theorem Take_wait {S : Nat → Prop} {w : World} {b : Nat} {now : Int} {said : List Int} {limbo : List (List (Int × Int))} (h : Rfo w b S now said limbo) (t n : Int) (ht : isT t said.length = true) (node at_ : Int) (l : List (Int × Int)) (hl0 : limbo[t.toNat]? = some ((node, at_) :: l))
    (hn : -9223372036854775808 ≤ n ∧ n ≤ 9223372036854775807) (ha : -9223372036854775808 ≤ at_ ∧ at_ ≤ 9223372036854775807) (hr1 : ripe at_ n = false) :
    Calls Try.prog 21 #[.pointer (some ⟨b, 0, none⟩), .int .i64 t, .int .i64 n] w fun e w' => e = .returned (.int .i64 0) ∧ w' = w := by
  obtain ⟨⟨vs, vl, qs, h1, h2, h3, h4, h5, h6, h7⟩, hh, hl, hs, hw⟩ := h
  obtain ⟨av, cv, rfl⟩ := form_own h2
  obtain ⟨al, cl, rfl⟩ := form_own h4
  have c1 : w.cell? ⟨b, 1, none⟩ = some (.slice av said.length cv) := h1.cell 1
  have c2 : w.cell? ⟨b, 2, none⟩ = some (.slice al limbo.length cl) := h1.cell 2
  obtain ⟨t0, t1⟩ := isT_true ht
  have t2 := t1
  rw [hs] at t1
  obtain ⟨q, hq, hr, _⟩ := h6 t.toNat _ hl0
  obtain ⟨a, cap, rfl, _, _⟩ := hr.form
  obtain ⟨g, off, cur, rfl, hb, hcap, hat⟩ := hr.at (by simp)
  have k0 : w.cell? ⟨g, off, none⟩ = some (.int .i64 node) := hat 0 _ rfl
  have k1 : w.cell? ⟨g, off + 1, none⟩ = some (.int .i64 at_) := hat 1 _ rfl
  obtain ⟨gl, cap', hv⟩ := ownsRow_form h4 (by omega)
  simp only [Value.slice.injEq] at hv
  obtain ⟨rfl, _, rfl⟩ := hv
  obtain ⟨cq, fq, hti⟩ := ownsRow_get h4 t.toNat _ hq
  have hc := Lib.hid (refReady_calls at_ n w hn ha)
  have HR := Lib.hid hr1
  clear ht hl0 hn ha hr1 h1 h2 h3 h4 h5 h6 h7 hl hs hw hr hq hat hcap
  go_enter Try.func21, Try.ntmps21
  go_wp2_with (go_at_call 14; refine hc.out.mono ?_; rw [HR.out]; rintro e w' ⟨rfl, hw⟩; have hw := hw.symm; subst hw)
  go_ret
  exact ⟨rfl, rfl⟩
end Go.Proofs.Ytnoioldbddjkiaa
