/- The arena's at, New, Used, Faults, Most. No condition but that there is such an arena, and its bounds. -/
import Derived.Test.YtolkpmbmgiplcaaAreA
namespace Go.Proofs.Ytolkpmbmgiplcaa
open Go Go.RowKit
set_option linter.unusedVariables false
set_option linter.unusedSimpArgs false
theorem Place_is (r n : Int) (w : World) (h : r % 1099511627776 - 1 = n) : Calls Try.prog 15 #[.int .i64 r] w fun e w' => e = .returned (.int .i64 n) ∧ w' = w := by
  subst h; exact Place_calls r w
theorem at_nil (r : Int) (w : World) : Calls Try.prog 34 #[.pointer none, .int .i64 r] w fun e w' => e = .returned (.pointer none) ∧ w' = w := by
  go_enter Try.func34, Try.ntmps34
  go_wp2
  go_ret
  exact ⟨rfl, rfl⟩
/-- A reference that means no place: a fault. -/
theorem at_none {w : World} {a : Nat} {S : Nat → Prop} {ar : Ar} (h : Are w a S ar) (ok : OkAr ar) (r : Int) (hr : arAt ar r = none) :
    Calls Try.prog 34 #[.pointer (some ⟨a, 0, none⟩), .int .i64 r] w fun e w' => e = .returned (.pointer none) ∧ w' = w.setCell ⟨a, 4, none⟩ (.int .i64 (ar.faults + 1)) := by
  obtain ⟨f0, f1⟩ := ok.faults
  by_cases h0 : 0 ≤ r % 1099511627776 - 1
  · by_cases h1 : r % 1099511627776 - 1 < ar.slots.length
    · obtain ⟨p, hp⟩ : ∃ p : Nat, r % 1099511627776 - 1 = (p : Int) := ⟨(r % 1099511627776 - 1).toNat, by omega⟩
      have hpl : p < ar.slots.length := by omega
      have hs : ar.slots[p]? = some ar.slots[p] := List.getElem?_eq_getElem hpl
      obtain ⟨g, off, cap, cf, af, v, hb, _, _, hag, hcap, hc, hz, _⟩ := h.slot hs
      have hcnt := ok.cnt _ (List.mem_of_getElem? hs)
      have hfew := ok.few
      have hd : ar.slots.getD p default = ar.slots[p] := by simp [List.getD, hs]
      have hne : ¬ (ar.slots[p].used = true ∧ refOf p ar.slots[p].count = r) := by
        intro hx
        have : arAt ar r = some p := by
          unfold arAt
          rw [hp]
          simp only [Int.toNat_natCast, hd]
          rw [if_pos ⟨by omega, by omega, hx.1, hx.2⟩]
        rw [hr] at this
        cases this
      generalize ar.slots[p] = s at *
      have c0 : w.cell? ⟨a, 0, none⟩ = some (.slice (some ⟨g, off, none⟩) ar.slots.length cap) := hb.cell 0
      have c4 : w.cell? ⟨a, 4, none⟩ = some (.int .i64 ar.faults) := hb.cell 4
      have z4 := hb.froz 4
      have c9 : w.cell? ⟨g, off + p * 10 + 9, none⟩ = some (.bool s.used) := hc 9 _ rfl
      have c8 : w.cell? ⟨g, off + p * 10 + 8, none⟩ = some (.int .u32 s.count) := hc 8 _ rfl
      have HP := Lib.hid (Place_is r p w hp)
      have HO := Lib.hid (Of_calls p s.count w (by omega) (by omega))
      clear hp hs hd hcnt hr hb hc hz h ok h0 h1
      cases hu : s.used with
      | false =>
        rw [hu] at c9
        clear hne hu HO
        go_enter Try.func34, Try.ntmps34
        go_wp2_with (go_at_call 15; refine HP.out.mono ?_; rintro e w' ⟨rfl, hw⟩; have hw := hw.symm; subst hw)
        go_ret
        exact ⟨rfl, rfl⟩
      | true =>
        rw [hu] at c9
        have hq : (refOf p s.count == r) = false := by simp only [beq_eq_false_iff_ne]; intro hx; exact hne ⟨hu, hx⟩
        clear hne hu
        generalize refOf p s.count = q at *
        go_enter Try.func34, Try.ntmps34
        go_wp2_with (first | (go_at_call 15; refine HP.out.mono ?_; rintro e w' ⟨rfl, hw⟩; have hw := hw.symm; subst hw) | (go_at_call 14; refine HO.out.mono ?_; rintro e w' ⟨rfl, hw⟩; have hw := hw.symm; subst hw))
        go_ret
        exact ⟨rfl, rfl⟩
    · obtain ⟨aS, af, cs, cf, hb, _⟩ := h.head
      have c0 : w.cell? ⟨a, 0, none⟩ = some (.slice aS ar.slots.length cs) := hb.cell 0
      have c4 : w.cell? ⟨a, 4, none⟩ = some (.int .i64 ar.faults) := hb.cell 4
      have z4 := hb.froz 4
      have HP := Lib.hid (Place_calls r w)
      generalize r % 1099511627776 - 1 = q at *
      have h2 : (ar.slots.length : Int) ≤ q := by omega
      clear hb h ok hr h1
      go_enter Try.func34, Try.ntmps34
      go_wp2_with (go_at_call 15; refine HP.out.mono ?_; rintro e w' ⟨rfl, hw⟩; have hw := hw.symm; subst hw)
      go_ret
      exact ⟨rfl, rfl⟩
  · obtain ⟨aS, af, cs, cf, hb, _⟩ := h.head
    have c4 : w.cell? ⟨a, 4, none⟩ = some (.int .i64 ar.faults) := hb.cell 4
    have z4 := hb.froz 4
    have HP := Lib.hid (Place_calls r w)
    generalize r % 1099511627776 - 1 = q at *
    clear hb h ok hr
    go_enter Try.func34, Try.ntmps34
    go_wp2_with (go_at_call 15; refine HP.out.mono ?_; rintro e w' ⟨rfl, hw⟩; have hw := hw.symm; subst hw)
    go_ret
    exact ⟨rfl, rfl⟩
theorem arAt_some {ar : Ar} {r : Int} {p : Nat} (h : arAt ar r = some p) : ∃ s, ar.slots[p]? = some s ∧ s.used = true ∧ refOf p s.count = r ∧ r % 1099511627776 - 1 = p := by
  unfold arAt at h
  dsimp only at h
  split at h
  · rename_i hc
    obtain ⟨h1, h2, h3, h4⟩ := hc
    simp only [Option.some.injEq] at h
    have hp : r % 1099511627776 - 1 = (p : Int) := by omega
    have hpl : p < ar.slots.length := by omega
    rw [h] at h3 h4
    rw [hp] at h4
    have hd : ar.slots.getD p default = ar.slots[p] := by simp [List.getD, List.getElem?_eq_getElem hpl]
    rw [hd] at h3 h4
    exact ⟨_, List.getElem?_eq_getElem hpl, h3, h4, hp⟩
  · cases h
/-- A reference's place. -/
theorem at_some {w : World} {a : Nat} {S : Nat → Prop} {ar : Ar} (h : Are w a S ar) (ok : OkAr ar) (r : Int) {p : Nat} (hr : arAt ar r = some p) {g off cap : Nat} {x1 x2 x3 x4 : Value} (hb : Blk w a 78 #[.slice (some ⟨g, off, none⟩) ar.slots.length cap, x1, x2, x3, x4])
    {s : Sl} {v : Vs} (hs : ar.slots[p]? = some s) (hcap : ar.slots.length ≤ cap) (hc : ∀ j u, (slotC s v)[j]? = some u → w.cell? ⟨g, off + p * 10 + j, none⟩ = some u) :
    Calls Try.prog 34 #[.pointer (some ⟨a, 0, none⟩), .int .i64 r] w fun e w' => e = .returned (.pointer (some ⟨g, off + p * 10, none⟩)) ∧ w' = w := by
  obtain ⟨s', hs', hu, hq, hp⟩ := arAt_some hr
  obtain rfl : s' = s := by rw [hs] at hs'; simpa using hs'.symm
  have hpl : p < ar.slots.length := (List.getElem?_eq_some_iff.1 hs).1
  have hcnt := ok.cnt _ (List.mem_of_getElem? hs)
  have hfew := ok.few
  have c0 : w.cell? ⟨a, 0, none⟩ = some (.slice (some ⟨g, off, none⟩) ar.slots.length cap) := hb.cell 0
  have c9 : w.cell? ⟨g, off + p * 10 + 9, none⟩ = some (.bool s'.used) := hc 9 _ rfl
  rw [hu] at c9
  have c8 : w.cell? ⟨g, off + p * 10 + 8, none⟩ = some (.int .u32 s'.count) := hc 8 _ rfl
  have HP := Lib.hid (Place_is r p w hp)
  have HO := Lib.hid (Of_calls p s'.count w (by omega) (by omega))
  rw [hq] at HO
  clear hp hs hs' hcnt hr hb hc h ok hu hq
  go_enter Try.func34, Try.ntmps34
  go_wp2_with (first | (go_at_call 15; refine HP.out.mono ?_; rintro e w' ⟨rfl, hw⟩; have hw := hw.symm; subst hw) | (go_at_call 14; refine HO.out.mono ?_; rintro e w' ⟨rfl, hw⟩; have hw := hw.symm; subst hw))
  go_ret
  exact ⟨rfl, rfl⟩
theorem Used_nil (w : World) : Calls Try.prog 16 #[.pointer none] w fun e w' => e = .returned (.int .i64 0) ∧ w' = w := by
  go_enter Try.func16, Try.ntmps16
  go_wp2
  go_ret
  exact ⟨rfl, rfl⟩
theorem Faults_nil (w : World) : Calls Try.prog 22 #[.pointer none] w fun e w' => e = .returned (.int .i64 0) ∧ w' = w := by
  go_enter Try.func22, Try.ntmps22
  go_wp2
  go_ret
  exact ⟨rfl, rfl⟩
theorem Most_nil (w : World) : Calls Try.prog 21 #[.pointer none] w fun e w' => e = .returned (.int .i64 0) ∧ w' = w := by
  go_enter Try.func21, Try.ntmps21
  go_wp2
  go_ret
  exact ⟨rfl, rfl⟩
theorem Used_calls {w : World} {a : Nat} {S : Nat → Prop} {ar : Ar} (h : Are w a S ar) : Calls Try.prog 16 #[.pointer (some ⟨a, 0, none⟩)] w fun e w' => e = .returned (.int .i64 ar.used) ∧ w' = w := by
  obtain ⟨aS, af, cs, cf, hb, _⟩ := h.head
  have c : w.cell? ⟨a, 3, none⟩ = some (.int .i64 ar.used) := hb.cell 3
  clear hb h
  go_enter Try.func16, Try.ntmps16
  go_wp2
  go_ret
  exact ⟨rfl, rfl⟩
theorem Faults_calls {w : World} {a : Nat} {S : Nat → Prop} {ar : Ar} (h : Are w a S ar) : Calls Try.prog 22 #[.pointer (some ⟨a, 0, none⟩)] w fun e w' => e = .returned (.int .i64 ar.faults) ∧ w' = w := by
  obtain ⟨aS, af, cs, cf, hb, _⟩ := h.head
  have c : w.cell? ⟨a, 4, none⟩ = some (.int .i64 ar.faults) := hb.cell 4
  clear hb h
  go_enter Try.func22, Try.ntmps22
  go_wp2
  go_ret
  exact ⟨rfl, rfl⟩
theorem Most_calls {w : World} {a : Nat} {S : Nat → Prop} {ar : Ar} (h : Are w a S ar) : Calls Try.prog 21 #[.pointer (some ⟨a, 0, none⟩)] w fun e w' => e = .returned (.int .i64 ar.most) ∧ w' = w := by
  obtain ⟨aS, af, cs, cf, hb, _⟩ := h.head
  have c : w.cell? ⟨a, 2, none⟩ = some (.int .i64 ar.most) := hb.cell 2
  clear hb h
  go_enter Try.func21, Try.ntmps21
  go_wp2
  go_ret
  exact ⟨rfl, rfl⟩
end Go.Proofs.Ytolkpmbmgiplcaa
