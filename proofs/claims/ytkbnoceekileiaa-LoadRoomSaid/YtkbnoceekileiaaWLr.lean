/- LoadRoom: the law's walk. -/
import Derived.Test.YtkbnoceekileiaaLfr
import Derived.Test.YtkbnoceekileiaaEvh
import Derived.Test.YtkbnoceekileiaaMny
namespace Go.Proofs.Ytkbnoceekileiaa
open Go Go.RowKit
set_option linter.unusedVariables false
set_option linter.unusedSimpArgs false
set_option maxRecDepth 100000
theorem field_pairs (x y : Bool) (b1 b2 b3 : Option Addr) (n1 n2 n3 d1 d2 d3 : Nat) (w : World) : (Instr.field 33 (.agg #[.bool x, .bool y, .slice b1 n1 d1, .slice b2 n2 d2, .slice b3 n3 d3]) 2).run Try.prog w = .ok (.slice b1 n1 d1) w := by kernel_rfl
set_option maxHeartbeats 200000000 in
theorem LoadRoom_walk (v : Value) (xs : List Int) (b : Int) (hb : 0 ≤ b ∧ b ≤ 255) (less : Int) (hls : 0 ≤ less ∧ less ≤ 255) (w : World) (R : RdV w v xs.length 1 (xs.map (Value.int .i64))) (hx : ∀ n ∈ xs, (Lit.int .i64 n).wf = true) :
    Calls Try.prog 8 #[v, .int .u8 b, .int .u8 less] w fun e w' => e = .returned (.bool true) ∧ Below w.heap.size w w' := by
  obtain ⟨av, cv, rfl⟩ := R.len
  have HR := Lib.hid R
  have CA := Lib.hid (Awake20_calls w)
  obtain ⟨bn, hbn⟩ : ∃ n : Nat, 3 + b % 6 = (n : Int) := ⟨(3 + b % 6).toNat, by omega⟩
  have hbb : 3 ≤ bn ∧ bn ≤ 8 := by omega
  have CF := Lib.hid (fun n (hn : 2 ≤ n ∧ n ≤ 65536) z l (hz : Heap w z l) => fresh_h hz b n hb hn)
  have CW := Lib.hid (fun z => Wide_calls b z hb)
  have HBN := Lib.hid (And.intro hbn hbb)
  obtain ⟨m4, hm4⟩ : ∃ n : Nat, less % 4 = (n : Int) := ⟨(less % 4).toNat, by omega⟩
  have hm44 : m4 ≤ 3 := by omega
  have hmt : less.tmod 4 = (m4 : Int) := by rw [Int.tmod_eq_emod_of_nonneg hls.1]; exact hm4
  rw [hbn] at CW
  clear R hx hb hbn hbb hm4 hls
  by_cases hlt : 1 ≤ xs.length ∧ xs.length ≤ 60
  · obtain ⟨h1, h2⟩ := hlt
    have hl0 : ¬ (xs.length : Int) < 1 := by omega
    have hl1 : ¬ (60 : Int) < (xs.length : Int) := by omega
    have HLT := Lib.hid (And.intro h1 h2)
    clear h1 h2
    go_enter Try.func8, Try.ntmps8
    go_wp2_with fail
    refine CA.out.mono ?_
    rintro e w1 ⟨rfl, F1⟩
    have H1 := (Heap.start w).go F1
    have CR := Lib.hid (Rising_h H1 (.slice av xs.length cv) xs (fun z l hz => HR.out.fr hz.fr (fun _ _ _ x => x)) (by have := HLT.out; omega))
    have hps := risingA_le xs
    have hpr := risingA_rises xs
    have hpn : risingA xs ≠ [] := fun e => by
      have h3 := risingA_nil.1 e
      have h4 := HLT.out.1
      rw [h3] at h4
      simp at h4
    obtain ⟨ps, hpq⟩ : ∃ ps, risingA xs = ps := ⟨_, rfl⟩
    rw [hpq] at CR hps hpr hpn
    have hpl : ps.length ≤ 60 := by have := HLT.out; omega
    obtain ⟨lp, hlp⟩ : ∃ n, ps.length = n := ⟨_, rfl⟩
    have HPS := Lib.hid (And.intro hlp (And.intro hpr hpn))
    rw [hlp] at CR hpl
    clear CA F1 H1 hps hpr hpn hpq hlp
    go_wp2_with fail
    refine CR.out.mono ?_
    rintro e w2 ⟨pa, pc, rfl, H2⟩
    have H2 : Heap w w2 [rowP 77 2 (.slice pa lp pc) lp (pairC ps)] := H2
    have QR := (H2.row 0 rfl).rdv
    rw [← HPS.out.1] at QR
    have CE := Lib.hid (Even_h w2 _ ps bn ⟨by have := HBN.out.2; omega, by have := HBN.out.2; omega⟩ (by rw [HPS.out.1]; omega) QR)
    rw [HPS.out.1] at CE
    have HH := Lib.hid H2
    clear CR H2 QR
    go_wp2_with (refine (CW.out _).mono ?_; rintro e w3 ⟨rfl, hw3⟩; rw [hw3]; clear hw3)
    refine CE.out.mono ?_
    rintro e w4 ⟨sv, rfl, H4⟩
    have H5 := HH.out.join H4
    obtain ⟨S, hS, _⟩ := H4.get 0 rfl
    have hmn := many_even (b := bn) (by have := HBN.out.2; omega) ps
    rw [HPS.out.1] at hmn
    obtain ⟨nn, hnn⟩ : ∃ x, nodesN lp bn = x := ⟨_, rfl⟩
    rw [hnn] at hmn
    have hnl := nodesN_le (n := lp) (b := bn) (by have := HBN.out.2; omega)
    rw [hnn] at hnl
    have hnp : 1 ≤ nn := by
      rw [← hnn]
      unfold nodesN
      split
      · omega
      · have := partK_pos lp bn; omega
    have CM := Lib.hid (Many_h 40 w4 S (evenSh bn ps) sv hS (dp_even (by have := HBN.out.2; omega) (by rw [HPS.out.1]; omega)) (by rw [hmn]; omega))
    have HMN := Lib.hid (And.intro hmn hnn)
    have HH5 := Lib.hid H5
    clear CE HH H4 H5 hS hmn hnn
    go_wp2_with fail
    refine CM.out.mono ?_
    rintro e w5 ⟨rfl, F5⟩
    rw [HMN.out.1]
    have HH := Lib.hid (HH5.out.go F5)
    clear CM F5 HH5
    go_upto_region 8 with fail
    obtain ⟨fw, hfw, hf1, hf2⟩ : ∃ f : Nat, (if nn < m4 then (nn : Int) else (m4 : Int)) = (f : Int) ∧ f ≤ nn ∧ f ≤ 3 := by
      by_cases h : nn < m4
      · exact ⟨nn, if_pos h, by omega, by omega⟩
      · exact ⟨m4, if_neg h, by omega, by omega⟩
    rw [hfw]
    clear hfw hmt
    have hnb : 2 ≤ 2 + (nn : Int) - (fw : Int) ∧ 2 + (nn : Int) - (fw : Int) ≤ 65536 := by omega
    have CFR := Lib.hid (CF.out (2 + (nn : Int) - (fw : Int)) hnb _ _ HH.out)
    have HNB := Lib.hid hnb
    clear CF HH hnb
    go_wp2_with fail
    refine CFR.out.mono ?_
    rintro e w6 ⟨c, hc1, hc2, hc3, rfl, H6⟩
    rw [HBN.out.1]
    rw [HBN.out.1] at hc2
    have HC := Lib.hid (And.intro hc2 hc3)
    have HH := Lib.hid H6
    clear CFR H6 hc1 hc2 hc3
    have HRW := Lib.hid (fun (z : World) (q : Piece) (l : List Piece) (hz : Heap w z (l ++ (wdQ c (wd0 1 (2 + (nn : Int) - (fw : Int)) 9) q ++ [shP (evenSh bn ps) sv, rowP 77 2 (.slice pa lp pc) lp (pairC ps)]))) => (((Heap.swapF hz).row 5 (t := 77) (sz := 2) (n := lp) (v := .slice pa lp pc) (us := pairC ps) rfl).rdv : RdV z (.slice pa lp pc) lp 2 (pairC ps)))
    by_cases hfz : fw = 0
    · subst hfz
      have HNN : Hid (2 + (nodesN ps.length bn : Int) ≤ 2 + (nn : Int) - ((0 : Nat) : Int) ∧ 2 + (nn : Int) - ((0 : Nat) : Int) ≤ 65536) := Lib.hid (by
        rw [HPS.out.1, HMN.out.2]
        have := HNB.out.2
        omega)
      obtain ⟨s, r, L, C2⟩ := fresh_load HH.out HC.out.2 HC.out.1 ⟨by have := HBN.out.2; omega, by have := HBN.out.2; omega⟩ (.slice pa lp pc) ps (by rw [HPS.out.1]; omega) HPS.out.2.1 (fun z q l hz => by rw [HPS.out.1]; exact HRW.out z q l hz) HNN.out
      have HL := Lib.hid L
      have C2 := Lib.hid C2
      clear L HH HRW HNN
      go_wp2_with fail
      refine C2.out.mono ?_
      rintro e w7 ⟨rfl, H7⟩
      obtain ⟨e0, _, _⟩ := wb_cells (l := []) (q := areP c.ab s.ar) H7
      have HH := Lib.hid H7
      clear C2 H7
      go_wp2_with fail
      refine (Used_h HH.out 1 rfl).mono ?_
      rintro e w8 ⟨rfl, hw⟩
      have hw := hw.symm
      subst hw
      rw [HL.out.used, HPS.out.1, HMN.out.2]
      clear e0
      have CN := Lib.hid (Nodes_h HH.out lp bn (by omega) ⟨by have := HBN.out.2; omega, by have := HBN.out.2; omega⟩)
      rw [HMN.out.2] at CN
      go_wp2_with (refine (CW.out _).mono ?_; rintro e w9 ⟨rfl, hw3⟩; rw [hw3]; clear hw3)
      refine CN.out.mono ?_
      rintro e w10 ⟨rfl, H10⟩
      have HB := Lib.hid H10
      clear CN H10 HH
      go_wp2_with fail
      go_ret
      exact ⟨rfl, HB.out.below⟩
    · have hf0 : 0 < fw := by omega
      have hf0i : (0 : Int) < (fw : Int) := by omega
      have C2 := Lib.hid (Load_memory HH.out (ldat_fresh HNB.out HC.out.2) (.slice pa lp pc) ps (by rw [HPS.out.1]; omega) (fun z q l hz => by rw [HPS.out.1]; exact HRW.out z q l hz) (b := bn) ⟨by have := HBN.out.2; omega, by have := HBN.out.2; omega⟩ HC.out.1 HPS.out.2.1 ⟨rfl, rfl⟩ HPS.out.2.2 (by
        rw [HPS.out.1, HMN.out.2]
        show 2 + (nn : Int) - (fw : Int) < 2 + (nn : Int)
        omega))
      clear HH HRW
      go_wp2_with fail
      refine C2.out.mono ?_
      rintro e w7 ⟨rfl, H7⟩
      obtain ⟨e0, _, _⟩ := wb_cells (l := []) (q := areP c.ab (newAr2 (2 + (nn : Int) - (fw : Int)))) H7
      have HH := Lib.hid H7
      clear C2 H7
      go_wp2_with fail
      refine (Used_h HH.out 1 rfl).mono ?_
      rintro e w8 ⟨rfl, hw⟩
      have hw := hw.symm
      subst hw
      rw [show (wd0 1 (2 + (nn : Int) - (fw : Int)) 9).ar.used = 2 from rfl]
      clear e0
      have HLD := Lib.hid (unloaded (c := c) (n := 2 + (nn : Int) - (fw : Int)) (b := bn) HNB.out HC.out.2)
      have CRD := Lib.hid (Read_h (sh := nilSh) HH.out ⟨HLD.out.ok, by decide⟩ HLD.out.way (nil_in _) (by unfold nilSh; rw [dpSh, dpShs]; omega))
      go_wp2_with fail
      refine CRD.out.mono ?_
      rintro e w9 ⟨vs, rfl, H9⟩
      obtain ⟨k1, k2, k3, k4, k5, k6, rfl⟩ := H9.shForm 0 rfl
      have HB := Lib.hid H9
      have FP := field_pairs
      unfold shV nilSh
      dsimp only [Sh.lf, Sh.tg, Sh.ps, Sh.ks, Sh.kids, List.length_nil]
      clear HH H9
      go_wp2_with fail
      go_ret
      exact ⟨rfl, HB.out.below⟩
  · have HLT := Lib.hid hlt
    have hl1 : (xs.length : Int) < 1 ∨ (¬ (xs.length : Int) < 1 ∧ (60 : Int) < (xs.length : Int)) := by omega
    clear hlt
    rcases hl1 with hl1 | ⟨hl0, hl1⟩
    all_goals
      go_enter Try.func8, Try.ntmps8
      go_wp2_with fail
      refine CA.out.mono ?_
      rintro e w1 ⟨rfl, F1⟩
      have H1 := Lib.hid ((Heap.start w).go F1)
      clear CA F1
      go_wp2_with fail
      go_ret
      exact ⟨rfl, H1.out.below⟩
end Go.Proofs.Ytkbnoceekileiaa
