/- Info, Mark, Way of a node that is there: nothing changes. No condition. -/
import Derived.Test.YthkohomogknddaaK2
namespace Go.Proofs.Ythkohomogknddaa
open Go Go.RowKit
set_option linter.unusedVariables false
set_option linter.unusedSimpArgs false
set_option maxRecDepth 100000
section
variable {w0 w : World} {l : List Piece} {a : Nat} {ar : Ar}
theorem Info_q (h : Heap w0 w l) (i : Nat) (hi : l[i]? = some (areP a ar)) (ok : OkAr ar) (r : Int) {p : Nat} (hr : arAt ar r = some p) :
    Calls Try.prog 63 #[.pointer (some ⟨a, 0, none⟩), .int .i64 r] w fun e w' => e = .returned (.int .i64 (infoAr r ar).1) ∧ w' = w := by
  unfold infoAr
  rw [hr]
  dsimp only
  obtain ⟨g, off, cap, cf, af, v, hb, hcap, hc, hz, _, _, _⟩ := slot_h h i hi (at_get hr)
  have C := Lib.hid (at_some_h h i hi ok r hr hb hcap hc)
  have c : w.cell? ⟨g, off + p * 10 + 6, none⟩ = some (.int .i64 (ar.at p).info) := hc 6 _ rfl
  have HH := Lib.hid h
  clear hr h hi ok hb hcap hc hz
  go_enter Try.func63, Try.ntmps63
  go_wp2_with fail
  refine C.out.mono ?_
  rintro e w' ⟨rfl, hw⟩
  have hw := hw.symm
  subst hw
  go_wp2_with fail
  go_ret
  exact ⟨rfl, rfl⟩
theorem Mark_q (h : Heap w0 w l) (i : Nat) (hi : l[i]? = some (areP a ar)) (ok : OkAr ar) (r : Int) {p : Nat} (hr : arAt ar r = some p) :
    Calls Try.prog 60 #[.pointer (some ⟨a, 0, none⟩), .int .i64 r] w fun e w' => e = .returned (.bool (markAr r ar).1) ∧ w' = w := by
  unfold markAr
  rw [hr]
  dsimp only
  obtain ⟨g, off, cap, cf, af, v, hb, hcap, hc, hz, _, _, _⟩ := slot_h h i hi (at_get hr)
  have C := Lib.hid (at_some_h h i hi ok r hr hb hcap hc)
  have c : w.cell? ⟨g, off + p * 10 + 7, none⟩ = some (.bool (ar.at p).mark) := hc 7 _ rfl
  have HH := Lib.hid h
  clear hr h hi ok hb hcap hc hz
  go_enter Try.func60, Try.ntmps60
  go_wp2_with fail
  refine C.out.mono ?_
  rintro e w' ⟨rfl, hw⟩
  have hw := hw.symm
  subst hw
  go_wp2_with fail
  go_ret
  exact ⟨rfl, rfl⟩
theorem Way_q (h : Heap w0 w l) (i : Nat) (hi : l[i]? = some (areP a ar)) (ok : OkAr ar) (r : Int) (j : Int) {p : Nat} (hr : arAt ar r = some p) :
    Calls Try.prog 47 #[.pointer (some ⟨a, 0, none⟩), .int .i64 r, .int .i64 j] w fun e w' => e = .returned (.int .i64 (wayAr r j ar).1) ∧ w' = w := by
  unfold wayAr
  rw [hr]
  dsimp only
  obtain ⟨g, off, cap, cf, af, v, hb, hcap, hc, hz, ⟨_, _, _, hq⟩, _, _⟩ := slot_h h i hi (at_get hr)
  have C := Lib.hid (at_some_h h i hi ok r hr hb hcap hc)
  have c : w.cell? ⟨g, off + p * 10 + 5, none⟩ = some v.w := hc 5 _ rfl
  have HH := Lib.hid h
  obtain ⟨aw, cw, hv, hcw, _⟩ := hq.form
  rw [hv] at c hq
  generalize (ar.at p).ways = ws at *
  clear hr h hi ok hb hcap hc hz
  by_cases h0 : 0 ≤ j
  · by_cases h1 : j < ws.length
    · obtain ⟨gw, ow, cur, rfl, _, _, hat⟩ := hq.at (by omega)
      have c2 : w.cell? ⟨gw, ow + j.toNat, none⟩ = some (.int .i64 (ws.getD j.toNat 0)) := hat _ _ (by simp [intC, List.getD, List.getElem?_eq_getElem (show j.toNat < ws.length by omega)])
      rw [if_pos ⟨h0, h1⟩]
      clear hat hq
      generalize ws.getD j.toNat 0 = x at *
      go_enter Try.func47, Try.ntmps47
      go_wp2_with fail
      refine C.out.mono ?_
      rintro e w' ⟨rfl, hw⟩
      have hw := hw.symm
      subst hw
      go_wp2_with fail
      go_ret
      exact ⟨rfl, rfl⟩
    · rw [if_neg (fun x => h1 x.2)]
      have h2 : (ws.length : Int) ≤ j := by omega
      clear hq h1
      go_enter Try.func47, Try.ntmps47
      go_wp2_with fail
      refine C.out.mono ?_
      rintro e w' ⟨rfl, hw⟩
      have hw := hw.symm
      subst hw
      go_wp2_with fail
      go_ret
      exact ⟨rfl, rfl⟩
  · rw [if_neg (fun x => h0 x.1)]
    have h2 : j < 0 := by omega
    clear hq h0
    go_enter Try.func47, Try.ntmps47
    go_wp2_with fail
    refine C.out.mono ?_
    rintro e w' ⟨rfl, hw⟩
    have hw := hw.symm
    subst hw
    go_wp2_with fail
    go_ret
    exact ⟨rfl, rfl⟩
end
end Go.Proofs.Ythkohomogknddaa
