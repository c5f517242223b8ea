/- HelpNone. No condition. -/
import Derived.Test.YthkohomogknddaaHaw
namespace Go.Proofs.Ythkohomogknddaa
open Go Go.RowKit
set_option linter.unusedVariables false
set_option linter.unusedSimpArgs false
set_option maxRecDepth 100000
def noE : Ent := ⟨tolds 2, [0, 0], 0, 0, 200, 77, 1, false⟩
def noW : Wd := { ndW 1 2 with rt := ⟨[noE], 40⟩ }
theorem noE_none {n : Int} (hn : n ≠ 1) : entOf [noE] n = none := by
  unfold entOf
  split
  · rw [List.getElem?_eq_none]; simp; omega
  · rfl
theorem noW_look {n : Int} (hn : n ≠ 1) : lookRt n noW.rt = noRc := by
  unfold lookRt noW
  simp only [noE_none hn]; rfl
theorem noW_sol {n : Int} (hn : n ≠ 1) : solH n noRc noW = ([0, 0], true, noW) := by
  have h1 : (aSetAll n noW).2 = noW := by
    unfold aSetAll setAllRt putOf noW
    simp only [noE_none hn]
  have h2 : (aSet n 2 noW).2 = noW := by
    unfold aSet setRt putOf noW
    simp only [noE_none hn]
  show (([] : List Int) ++ (solE n noRc noW).1, true, (solE n noRc noW).2) = _
  unfold solE
  rw [h1]
  show ((0 : Int) :: ([] ++ ([] ++ [0])), true, (aSet n 2 noW).2) = _
  rw [h2]; rfl
theorem ndW_ok {t k : Nat} {es : List Ent} (hk : k ≤ 5) (ht : t ≤ 64) (he : ∀ e ∈ es, e.nodes.length ≤ 1000 ∧ e.infos.length ≤ 1000) : WdOk 10 { ndW t k with rt := ⟨es, 40⟩ } := by
  refine ⟨nkS_ok (by rw [fresh_len]; exact hk) (Nat.le_refl _), ?_, he⟩
  exact ((ok_new (threads := t) (nodes := 60) (records := 40) (by omega)).up (by omega : 2 ≤ 10)).ep
theorem fresh_get {k i : Nat} (h : i < k) : (fresh k)[i]? = some ⟨0, false, 200 + 10 * (i : Int), 201 + 10 * (i : Int)⟩ := by
  simp [fresh, h]
theorem tolds_get {k i : Nat} (h : i < k) : (intC (tolds k))[i]? = some (.int .i64 (told i)) := by
  simp [intC, tolds, h]
set_option maxHeartbeats 4000000 in
theorem HelpNone_walk (n : Int) (_ : -9223372036854775808 ≤ n ∧ n ≤ 9223372036854775807) (w : World) :
    Calls Try.prog 14 #[.int .i64 n] w fun e w' => e = .returned (.bool true) ∧ Below w.heap.size w w' := by
  by_cases h1 : n = 1
  · subst h1
    go_enter Try.func14, Try.ntmps14
    go_wp2_with fail
    refine (Awake9 w).mono ?_
    rintro e w1 ⟨rfl, F1⟩
    have B1 := Lib.hid ((Heap.start w).go F1).below
    clear F1
    go_wp2_with fail
    go_ret
    exact ⟨rfl, B1.out⟩
  · have hne : (n == 1) = false := by simpa using h1
    have H1N := Lib.hid h1
    clear h1
    go_enter Try.func14, Try.ntmps14
    go_wp2_with fail
    refine (Awake9 w).mono ?_
    rintro e w1 ⟨rfl, F1⟩
    have CN := Lib.hid (Nodes_h ((Heap.start w).go F1) 1 2 (by omega) (by omega))
    clear F1
    go_wp2_with fail
    refine CN.out.mono ?_
    rintro e w2 ⟨c, a, cp, _, rfl, H⟩
    have H2 := (H.alloc 2 #[.int .i64 0, .int .i64 0])
    have CM := Lib.hid (Make_h H2 2 rfl ⟨tolds 2, [0, 0], 0, 0, 200, 77⟩ (.slice a 2 cp) (.slice (some ⟨w2.heap.size, 0, none⟩) 2 2) ((H2.row 4 (t := 29) (sz := 1) (n := 2) (v := .slice a 2 cp) (us := intC (tolds 2)) rfl).rdv) (RdV.block (cs := #[.int .i64 0, .int .i64 0]) (t := 2) (g := w2.heap.size) (m := 2) (sz := 1) (H2.blk 5 rfl) rfl (by decide)) (by simp [tolds_len]) (by simp))
    obtain ⟨v0, v1, v2, v3, v4, v5⟩ := wdL_cells H
    clear CN H H2
    go_wp2_with fail
    refine CM.out.mono ?_
    rintro e w3 ⟨rfl, H3⟩
    have H3 : Heap w w3 ((wdL c noW ++ [rowP 29 1 (.slice a 2 cp) 2 (intC (tolds 2))]) ++ [blkP w2.heap.size 2 #[.int .i64 0, .int .i64 0]]) := H3
    have CH := Lib.hid (helper_alone (me := 0) H3.first n noRc (noW_look H1N.out) (by decide) (by decide) (ndW_ok (by omega) (by omega) (by simp [noE, tolds_len])) (by omega) _ (noW_sol H1N.out) (by simp))
    clear CM H3 v0 v1 v2 v3 v4 v5
    go_wp2_with fail
    refine CH.out.mono ?_
    rintro e w4 ⟨tb, rfl, CA⟩
    clear CH
    go_wp2_with fail
    refine CA.out.mono ?_
    rintro e w5 ⟨T', a1, cp1, a2, cp2, rfl, H5, hd, ho, ok5⟩
    have H5 : Heap w w5 (wdL c noW ++ [rowP 29 1 (.slice a 2 cp) 2 (intC (tolds 2)), thP tb T', rowP 2 1 (.slice a1 1 cp1) 1 (intC [bit true]), rowP 2 1 (.slice a2 1 cp2) 1 (intC [bit true])]) := H5
    have HO := Lib.hid (And.intro hd ho)
    have okA := Lib.hid (ok5.ar.ok (by decide))
    have HH := Lib.hid H5
    clear CA H5 hd ho ok5
    go_wp2_with fail
    go_loopw [38] (fun i wr => ∃ k : Nat, i = .int .i64 (k : Nat) ∧ k ≤ 2 ∧ Hid (Heap w wr (wdL c noW ++ [rowP 29 1 (.slice a 2 cp) 2 (intC (tolds 2)), thP tb T', rowP 2 1 (.slice a1 1 cp1) 1 (intC [bit true]), rowP 2 1 (.slice a2 1 cp2) 1 (intC [bit true])]))) (fun i _ => 2 - (intOf i).toNat)
    case atStart => exact ⟨0, rfl, Nat.zero_le _, HH⟩
    case round =>
      clear HH
      obtain ⟨k, rfl, hk, HH⟩ := hrel
      by_cases hlt : k < 2
      · obtain ⟨v0, v1, v2, v3, v4, v5⟩ := wdL_cells HH.out
        obtain ⟨g9, ee, hcc, hat⟩ := (HH.out.row 4 (t := 29) (sz := 1) (n := 2) (v := .slice a 2 cp) (us := intC (tolds 2)) rfl).rdv.at (by omega)
        have ee : a = some g9 := by simpa using ee
        subst ee
        have y1 := hat k _ (tolds_get hlt)
        have hat' : arAt noW.ar (told k) = some (2 + k) := arAt_nk (l := fresh 2) (by rw [fresh_len]; exact hlt) (by rw [fresh_len]; omega)
        have CI := (Info_q HH.out 1 rfl okA.out (told k) hat')
        rw [show (infoAr (told k) noW.ar).1 = 0 from by show (infoAr (told k) (nkS (fresh 2))).1 = 0; rw [nk_info (fresh_get hlt) (by rw [fresh_len]; omega)]] at CI
        have CM := (Mark_q HH.out 1 rfl okA.out (told k) hat')
        rw [show (markAr (told k) noW.ar).1 = false from by show (markAr (told k) (nkS (fresh 2))).1 = false; rw [nk_mark (fresh_get hlt) (by rw [fresh_len]; omega)]] at CM
        have CW := (Way_q HH.out 1 rfl okA.out (told k) 0 hat')
        rw [show (wayAr (told k) 0 noW.ar).1 = 200 + 10 * (k : Int) from by show (wayAr (told k) 0 (nkS (fresh 2))).1 = _; rw [(nk_way (fresh_get hlt) (by rw [fresh_len]; omega)).1]] at CW
        have CI := Lib.hid CI
        have CM := Lib.hid CM
        have CW := Lib.hid CW
        clear hat hat'
        go_wp2_with fail
        refine CI.out.mono ?_
        rintro e w' ⟨rfl, hw⟩
        have hw := hw.symm
        subst hw
        go_wp2_with fail
        refine CM.out.mono ?_
        rintro e w' ⟨rfl, hw⟩
        have hw := hw.symm
        subst hw
        go_wp2_with fail
        refine CW.out.mono ?_
        rintro e w' ⟨rfl, hw⟩
        have hw := hw.symm
        subst hw
        clear CI CM CW
        go_wp2_with fail
        exact ⟨⟨k + 1, by go_num, by omega, HH⟩, by simp [intOf]; omega⟩
      · obtain ⟨v0, v1, v2, v3, v4, v5⟩ := wdL_cells HH.out
        have CY := Lib.hid (yes_h HH.out 5 6 rfl true rfl HO.out.1 HO.out.2)
        have hkk : k = 2 := by omega
        subst hkk
        clear hlt hk
        go_wp2_with fail
        refine CY.out.mono ?_
        rintro e w6 ⟨rfl, a3, cp3, H6⟩
        obtain ⟨v0, v1, v2, v3, v4, v5⟩ := wdL_cells (Z := [rowP 29 1 (.slice a 2 cp) 2 (intC (tolds 2)), thP tb T', rowP 2 1 (.slice a1 1 cp1) 1 (intC [bit true]), rowP 2 1 (.slice a2 1 cp2) 1 (intC [bit true]), rowP 2 1 (.slice a3 1 cp3) 1 (intC [bit true])]) H6
        have CL := RtLen_h H6 2 rfl
        have CS := State_h H6 2 rfl 1
        have CL : Calls Try.prog 49 #[.pointer (some ⟨c.rb, 0, none⟩)] w6 fun e w' => e = .returned (.int .i64 1) ∧ w' = w6 := CL
        have CS : Calls Try.prog 56 #[.pointer (some ⟨c.rb, 0, none⟩), .int .i64 1] w6 fun e w' => e = .returned (.int .u8 1) ∧ w' = w6 := CS
        have CL := Lib.hid CL
        have CS := Lib.hid CS
        have HB := Lib.hid H6.below
        clear CY H6
        go_wp2_with fail
        refine CL.out.mono ?_
        rintro e w' ⟨rfl, hw⟩
        have hw := hw.symm
        subst hw
        go_wp2_with fail
        refine CS.out.mono ?_
        rintro e w' ⟨rfl, hw⟩
        have hw := hw.symm
        subst hw
        go_wp2_with fail
        go_ret
        exact ⟨rfl, HB.out⟩
end Go.Proofs.Ythkohomogknddaa
