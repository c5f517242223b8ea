/- LoadNone: the law's walk. -/
import Derived.Test.YtkbnoceekileiaaLfr
namespace Go.Proofs.Ytkbnoceekileiaa
open Go Go.RowKit
set_option linter.unusedVariables false
set_option linter.unusedSimpArgs false
set_option maxRecDepth 100000
set_option maxHeartbeats 200000000 in
theorem LoadNone_walk (v : Value) (xs : List Int) (b : Int) (hb : 0 ≤ b ∧ b ≤ 255) (w : World) (R : RdV w v xs.length 1 (xs.map (Value.int .i64))) (hx : ∀ n ∈ xs, (Lit.int .i64 n).wf = true) :
    Calls Try.prog 9 #[v, .int .u8 b] w fun e w' => e = .returned (.bool true) ∧ Below w.heap.size w w' := by
  obtain ⟨av, cv, rfl⟩ := R.len
  have HR := Lib.hid R
  have CA := Lib.hid (Awake20_calls w)
  have CF := Lib.hid (fun z (hz : Heap w z []) => fresh_h hz b 200 hb (by decide))
  obtain ⟨bn, hbn⟩ : ∃ n : Nat, 3 + b % 6 = (n : Int) := ⟨(3 + b % 6).toNat, by omega⟩
  have hbb : 3 ≤ bn ∧ bn ≤ 8 := by omega
  have HBN := Lib.hid (And.intro hbn hbb)
  clear R hx hb hbn hbb
  by_cases hlt : xs.length ≤ 40
  · have hl1 : ¬ (40 : Int) < (xs.length : Int) := by omega
    have HLT := Lib.hid hlt
    clear hlt
    go_enter Try.func9, Try.ntmps9
    go_wp2_with fail
    refine CA.out.mono ?_
    rintro e w1 ⟨rfl, F1⟩
    have H1 := Lib.hid ((Heap.start w).go F1)
    clear CA F1
    go_wp2_with fail
    refine (CF.out _ H1.out).mono ?_
    rintro e w2 ⟨c, hc1, hc2, hc3, rfl, H2⟩
    rw [HBN.out.1]
    rw [HBN.out.1] at hc2
    have HC := Lib.hid (And.intro hc2 hc3)
    have HH := Lib.hid H2
    clear CF H1 H2 hc1 hc2 hc3
    have C0 := Lib.hid (Load_zero (Z := []) HH.out (ldat_fresh (n := 200) (by decide) HC.out.2) (.slice none 0 0) [] (by decide) (fun z q l hz => RdV_nil z 2) (fun i hi => by simp at hi) ⟨rfl, rfl⟩ rfl)
    go_wp2_with fail
    refine C0.out.mono ?_
    rintro e w3 ⟨rfl, H3⟩
    clear C0 HH
    obtain ⟨e0, _, _⟩ := wb_cells (l := []) (q := areP c.ab (newAr2 200)) H3
    have HH := Lib.hid H3
    clear H3
    go_wp2_with fail
    refine (Used_h HH.out 1 rfl).mono ?_
    rintro e w4 ⟨rfl, hw⟩
    have hw := hw.symm
    subst hw
    rw [show (wd0 1 200 9).ar.used = 2 from rfl]
    clear e0
    have CR := Lib.hid (Rising_h HH.out (.slice av xs.length cv) xs (fun z l hz => HR.out.fr hz.fr (fun _ _ _ x => x)) (by have := HLT.out; omega))
    have hps := risingA_le xs
    have hpr := risingA_rises xs
    obtain ⟨ps, hpq⟩ : ∃ ps, risingA xs = ps := ⟨_, rfl⟩
    rw [hpq] at CR hps hpr
    have hpl : ps.length ≤ 40 := by have := HLT.out; omega
    have HPS := Lib.hid (And.intro hpl hpr)
    clear hps hpr hpq HH
    go_wp2_with fail
    refine CR.out.mono ?_
    rintro e w5 ⟨pa, pc, rfl, H5⟩
    clear CR
    have H5 : Heap w w5 (wdL c (wd0 1 200 9) ++ [rowP 77 2 (.slice pa ps.length pc) ps.length (pairC ps)]) := H5
    obtain ⟨s, r, L, C2⟩ := fresh_load H5 HC.out.2 HC.out.1 ⟨by have := HBN.out.2; omega, by have := HBN.out.2; omega⟩ (.slice pa ps.length pc) ps (by omega) HPS.out.2 (fun z q l hz => ((Heap.swapF hz).row 4 rfl).rdv) (by
      have := nodesN_le (n := ps.length) (b := bn) (by have := HBN.out.2; omega)
      omega)
    have HL := Lib.hid L
    have C2 := Lib.hid C2
    obtain ⟨lp, hlp⟩ : ∃ n, ps.length = n := ⟨_, rfl⟩
    have HLP := Lib.hid hlp
    rw [hlp] at C2 hpl ⊢
    clear H5 L hlp
    go_wp2_with fail
    refine C2.out.mono ?_
    rintro e w6 ⟨rfl, H6⟩
    rw [← HLP.out] at H6
    have HH := Lib.hid H6
    clear C2 H6
    have C3 := Lib.hid (load_again (HH.out.skip (.cells #[] 77)) HL.out (by have := HBN.out.2; omega) (.slice (some ⟨w6.heap.size, 0, none⟩) 0 0) (fun z q l hz => ⟨rfl, by simp, .inr ⟨_, 0, rfl, Nat.le_refl _, fun j hj => by omega⟩⟩))
    have CLN := Lib.hid (fun z => Load_nil (.slice pa lp pc) z)
    by_cases hp : ps = []
    · have hl0 : lp = 0 := by have := HLP.out; rw [hp] at this; simpa using this.symm
      subst hl0
      go_wp2_with fail
      refine C3.out.mono ?_
      rintro e w7 ⟨rfl, H7⟩
      rw [if_pos hp]
      have HH := Lib.hid H7
      clear C3 H7 hp
      have CRD := Lib.hid (Read_h HH.out ⟨HL.out.ok, by decide⟩ HL.out.way HL.out.tree (dp_even (by have := HBN.out.2; omega) (by have := HPS.out.1; omega)))
      go_wp2_with fail
      refine CRD.out.mono ?_
      rintro e w8 ⟨vs, rfl, H8⟩
      clear CRD HH
      obtain ⟨S, hS, _⟩ := H8.get 0 rfl
      have hal := all_even (b := bn) (by have := HBN.out.2; omega) ps
      have CAL := Lib.hid (All_h 40 w8 S (evenSh bn ps) vs hS (dp_even (by have := HBN.out.2; omega) (by have := HPS.out.1; omega)) (by rw [hal]; have := HPS.out.1; omega))
      have HAL := Lib.hid hal
      have HH := Lib.hid H8
      clear hS H8 hal
      go_wp2_with fail
      refine CAL.out.mono ?_
      rintro e w9 ⟨a9, c9, rfl, H9⟩
      rw [HAL.out] at H9 ⊢
      have HX := HH.out.join H9
      have CSM := Lib.hid (SameP_calls (.slice a9 ps.length c9) (.slice pa ps.length pc) ps w9 (HX.row 0 rfl).rdv (HX.row 6 (t := 77) (sz := 2) (n := ps.length) (v := .slice pa ps.length pc) (us := pairC ps) rfl).rdv)
      have HB := Lib.hid HX
      rw [HLP.out] at CSM ⊢
      clear CAL HH H9 HX
      go_wp2_with fail
      refine CSM.out.mono ?_
      rintro e w10 ⟨rfl, nq, rfl⟩
      clear CSM
      go_wp2_with fail
      refine (CLN.out _).mono ?_
      rintro e w11 ⟨rfl, hw⟩
      have hw := hw.symm
      subst hw
      go_wp2_with fail
      go_ret
      exact ⟨rfl, (HB.out.drewN nq).below⟩
    · have hl0 : 0 < lp := by
        have h1 : ps.length ≠ 0 := fun e => hp (List.eq_nil_of_length_eq_zero e)
        have := HLP.out
        omega
      have hl0i : (0 : Int) < (lp : Int) := by omega
      go_wp2_with fail
      refine C3.out.mono ?_
      rintro e w7 ⟨rfl, H7⟩
      rw [if_neg hp]
      have HH := Lib.hid H7
      clear C3 H7 hp
      have CRD := Lib.hid (Read_h HH.out ⟨HL.out.ok, by decide⟩ HL.out.way HL.out.tree (dp_even (by have := HBN.out.2; omega) (by have := HPS.out.1; omega)))
      go_wp2_with fail
      refine CRD.out.mono ?_
      rintro e w8 ⟨vs, rfl, H8⟩
      clear CRD HH
      obtain ⟨S, hS, _⟩ := H8.get 0 rfl
      have hal := all_even (b := bn) (by have := HBN.out.2; omega) ps
      have CAL := Lib.hid (All_h 40 w8 S (evenSh bn ps) vs hS (dp_even (by have := HBN.out.2; omega) (by have := HPS.out.1; omega)) (by rw [hal]; have := HPS.out.1; omega))
      have HAL := Lib.hid hal
      have HH := Lib.hid H8
      clear hS H8 hal
      go_wp2_with fail
      refine CAL.out.mono ?_
      rintro e w9 ⟨a9, c9, rfl, H9⟩
      rw [HAL.out] at H9 ⊢
      have HX := HH.out.join H9
      have CSM := Lib.hid (SameP_calls (.slice a9 ps.length c9) (.slice pa ps.length pc) ps w9 (HX.row 0 rfl).rdv (HX.row 6 (t := 77) (sz := 2) (n := ps.length) (v := .slice pa ps.length pc) (us := pairC ps) rfl).rdv)
      have HB := Lib.hid HX
      rw [HLP.out] at CSM ⊢
      clear CAL HH H9 HX
      go_wp2_with fail
      refine CSM.out.mono ?_
      rintro e w10 ⟨rfl, nq, rfl⟩
      clear CSM
      go_wp2_with fail
      refine (CLN.out _).mono ?_
      rintro e w11 ⟨rfl, hw⟩
      have hw := hw.symm
      subst hw
      go_wp2_with fail
      go_ret
      exact ⟨rfl, (HB.out.drewN nq).below⟩
  · have hl1 : (40 : Int) < (xs.length : Int) := by omega
    clear hlt
    go_enter Try.func9, Try.ntmps9
    go_wp2_with fail
    refine CA.out.mono ?_
    rintro e w1 ⟨rfl, F1⟩
    have H1 := Lib.hid ((Heap.start w).go F1)
    clear CA F1
    go_wp2_with fail
    go_ret
    exact ⟨rfl, H1.out.below⟩
end Go.Proofs.Ytkbnoceekileiaa
