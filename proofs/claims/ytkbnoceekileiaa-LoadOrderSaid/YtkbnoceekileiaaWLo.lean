/- LoadOrder: the law's walk. -/
import Derived.Test.YtkbnoceekileiaaLfr
import Derived.Test.YtkbnoceekileiaaPrO
namespace Go.Proofs.Ytkbnoceekileiaa
open Go Go.RowKit
set_option linter.unusedVariables false
set_option linter.unusedSimpArgs false
set_option maxRecDepth 100000
theorem field_pairs (x y : Bool) (b1 b2 b3 : Option Addr) (n1 n2 n3 d1 d2 d3 : Nat) (w : World) : (Instr.field 33 (.agg #[.bool x, .bool y, .slice b1 n1 d1, .slice b2 n2 d2, .slice b3 n3 d3]) 2).run Try.prog w = .ok (.slice b1 n1 d1) w := by kernel_rfl
theorem field_leaf (x y : Bool) (b1 b2 b3 : Option Addr) (n1 n2 n3 d1 d2 d3 : Nat) (w : World) : (Instr.field 33 (.agg #[.bool x, .bool y, .slice b1 n1 d1, .slice b2 n2 d2, .slice b3 n3 d3]) 0).run Try.prog w = .ok (.bool x) w := by kernel_rfl
set_option maxHeartbeats 200000000 in
theorem LoadOrder_walk (v : Value) (ps : List (Int × Int)) (b : Int) (hb : 0 ≤ b ∧ b ≤ 255) (w : World) (R : RdV w v ps.length 2 (pairC ps)) :
    Calls Try.prog 7 #[v, .int .u8 b] w fun e w' => e = .returned (.bool true) ∧ Below w.heap.size w w' := by
  obtain ⟨av, cv, rfl⟩ := R.len
  have HR := Lib.hid R
  have CA := Lib.hid (Awake20_calls w)
  have CF := Lib.hid (fun z (hz : Heap w z []) => fresh_h hz b 300 hb (by decide))
  obtain ⟨bn, hbn⟩ : ∃ n : Nat, 3 + b % 6 = (n : Int) := ⟨(3 + b % 6).toNat, by omega⟩
  have hbb : 3 ≤ bn ∧ bn ≤ 8 := by omega
  have HBN := Lib.hid (And.intro hbn hbb)
  obtain ⟨lp, hlp⟩ : ∃ n, ps.length = n := ⟨_, rfl⟩
  have HLP := Lib.hid hlp
  have C2R := Lib.hid (fun (t : Bool) (ht : t = true ↔ RisesP ps) z (hz : Heap w z []) => Rises2_calls (.slice av ps.length cv) ps z (HR.out.fr hz.fr (fun _ _ _ x => x)) t ht)
  rw [hlp] at C2R ⊢
  clear R hb hbn hbb hlp
  by_cases hlt : lp ≤ 60
  · have hl1 : ¬ (60 : Int) < (lp : Int) := by omega
    have HLT := Lib.hid hlt
    clear hlt
    by_cases hris : RisesP ps
    · have HRS := Lib.hid hris
      clear hris
      go_enter Try.func7, Try.ntmps7
      go_wp2_with fail
      refine CA.out.mono ?_
      rintro e w1 ⟨rfl, F1⟩
      have H1 := Lib.hid ((Heap.start w).go F1)
      clear CA F1
      go_wp2_with fail
      refine (CF.out _ H1.out).mono ?_
      rintro e w2 ⟨c, hc1, hc2, hc3, rfl, H2⟩
      rw [HBN.out.1]
      rw [HBN.out.1] at hc2
      have HC := Lib.hid (And.intro hc2 hc3)
      have HH := Lib.hid H2
      clear CF H1 H2 hc1 hc2 hc3
      have HN := Lib.hid (show 2 + (nodesN ps.length bn : Int) ≤ 300 ∧ (300 : Int) ≤ 65536 by
        have := nodesN_le (n := ps.length) (b := bn) (by have := HBN.out.2; omega)
        have h1 := HLP.out
        have h2 := HLT.out
        omega)
      obtain ⟨s, r, L, C2⟩ := fresh_load (Z := []) HH.out HC.out.2 HC.out.1 ⟨by have := HBN.out.2; omega, by have := HBN.out.2; omega⟩ (.slice av ps.length cv) ps (by have := HLP.out; have := HLT.out; omega) HRS.out (fun z q l hz => HR.out.fr hz.fr (fun _ _ _ x => x)) HN.out
      have HL := Lib.hid L
      have C2 := Lib.hid C2
      rw [HLP.out] at C2
      clear L HH
      go_wp2_with fail
      refine C2.out.mono ?_
      rintro e w6 ⟨rfl, H6⟩
      have HH := Lib.hid H6
      have CB := Lib.hid (C2R.out true ⟨fun _ => HRS.out, fun _ => rfl⟩ w6 (H6.first (l := [])))
      clear C2 H6
      go_wp2_with fail
      refine CB.out.mono ?_
      rintro e w7 ⟨rfl, F7⟩
      have HH := Lib.hid (HH.out.go F7)
      clear CB F7
      have CRD := Lib.hid (Read_h HH.out ⟨HL.out.ok, by decide⟩ HL.out.way HL.out.tree (dp_even (by have := HBN.out.2; omega) (by have := HLP.out; have := HLT.out; omega)))
      go_wp2_with fail
      refine CRD.out.mono ?_
      rintro e w8 ⟨vs, rfl, H8⟩
      clear CRD HH
      obtain ⟨S, hS, _⟩ := H8.get 0 rfl
      have hal := all_even (b := bn) (by have := HBN.out.2; omega) ps
      have CAL := Lib.hid (All_h 40 w8 S (evenSh bn ps) vs hS (dp_even (by have := HBN.out.2; omega) (by have := HLP.out; have := HLT.out; omega)) (by rw [hal]; have := HLP.out; have := HLT.out; omega))
      have HAL := Lib.hid hal
      have HH := Lib.hid H8
      clear hS H8 hal
      go_wp2_with fail
      refine CAL.out.mono ?_
      rintro e w9 ⟨a9, c9, rfl, H9⟩
      rw [HAL.out] at H9 ⊢
      have HX := HH.out.join H9
      have CSM := Lib.hid (SameP_calls (.slice a9 ps.length c9) (.slice av ps.length cv) ps w9 (HX.row 0 rfl).rdv (HR.out.fr HX.fr (fun _ _ _ x => x)))
      have HB := Lib.hid HX
      rw [HLP.out] at CSM ⊢
      clear CAL HH H9 HX
      go_wp2_with fail
      refine CSM.out.mono ?_
      rintro e w10 ⟨rfl, nq, rfl⟩
      clear CSM
      go_wp2_with fail
      go_ret
      exact ⟨rfl, (HB.out.drewN nq).below⟩
    · have HRS := Lib.hid hris
      clear hris
      go_enter Try.func7, Try.ntmps7
      go_wp2_with fail
      refine CA.out.mono ?_
      rintro e w1 ⟨rfl, F1⟩
      have H1 := Lib.hid ((Heap.start w).go F1)
      clear CA F1
      go_wp2_with fail
      refine (CF.out _ H1.out).mono ?_
      rintro e w2 ⟨c, hc1, hc2, hc3, rfl, H2⟩
      rw [HBN.out.1]
      rw [HBN.out.1] at hc2
      have HC := Lib.hid (And.intro hc2 hc3)
      have HH := Lib.hid H2
      clear CF H1 H2 hc1 hc2 hc3
      have C2 := Lib.hid (Load_order (Z := []) HH.out (ldat_fresh (n := 300) (by decide) HC.out.2) (.slice av ps.length cv) ps (by have := HLP.out; have := HLT.out; omega) (fun z q l hz => HR.out.fr hz.fr (fun _ _ _ x => x)) HRS.out)
      rw [HLP.out] at C2
      clear HH
      go_wp2_with fail
      refine C2.out.mono ?_
      rintro e w6 ⟨rfl, H6⟩
      have HH := Lib.hid H6
      have CB := Lib.hid (C2R.out false ⟨fun h => by simp at h, fun h => absurd h HRS.out⟩ w6 (H6.first (l := [])))
      clear C2 H6
      go_wp2_with fail
      refine CB.out.mono ?_
      rintro e w7 ⟨rfl, F7⟩
      have H7 := HH.out.go F7
      have HH := Lib.hid H7
      obtain ⟨e0, _, _⟩ := wb_cells (l := []) (q := areP c.ab (newAr2 300)) H7
      clear CB F7 H7
      go_wp2_with fail
      refine (Used_h HH.out 1 rfl).mono ?_
      rintro e w8 ⟨rfl, hw⟩
      have hw := hw.symm
      subst hw
      rw [show (wd0 1 300 9).ar.used = 2 from rfl]
      clear e0
      have HLD := Lib.hid (unloaded (c := c) (n := 300) (b := bn) (by decide) HC.out.2)
      have CRD := Lib.hid (Read_h (sh := nilSh) HH.out ⟨HLD.out.ok, by decide⟩ HLD.out.way (nil_in 300) (by unfold nilSh; rw [dpSh, dpShs]; omega))
      go_wp2_with fail
      refine CRD.out.mono ?_
      rintro e w9 ⟨vs, rfl, H9⟩
      obtain ⟨k1, k2, k3, k4, k5, k6, rfl⟩ := H9.shForm 0 rfl
      have H9 := H9.tailP
      have CRD := Lib.hid (Read_h (sh := nilSh) H9 ⟨HLD.out.ok, by decide⟩ HLD.out.way (nil_in 300) (by unfold nilSh; rw [dpSh, dpShs]; omega))
      have FP := field_pairs
      have FL := field_leaf
      unfold shV nilSh
      dsimp only [Sh.lf, Sh.tg, Sh.ps, Sh.ks, Sh.kids, List.length_nil]
      clear HH H9
      go_wp2_with fail
      refine CRD.out.mono ?_
      rintro e w10 ⟨vs, rfl, H10⟩
      obtain ⟨j1, j2, j3, j4, j5, j6, rfl⟩ := H10.shForm 0 rfl
      have HB := Lib.hid H10
      unfold shV nilSh
      dsimp only [Sh.lf, Sh.tg, Sh.ps, Sh.ks, Sh.kids, List.length_nil]
      clear H10 CRD
      go_wp2_with fail
      go_ret
      exact ⟨rfl, HB.out.below⟩
  · have hl1 : (60 : Int) < (lp : Int) := by omega
    clear hlt
    go_enter Try.func7, Try.ntmps7
    go_wp2_with fail
    refine CA.out.mono ?_
    rintro e w1 ⟨rfl, F1⟩
    have H1 := Lib.hid ((Heap.start w).go F1)
    clear CA F1
    go_wp2_with fail
    go_ret
    exact ⟨rfl, H1.out.below⟩
end Go.Proofs.Ytkbnoceekileiaa
