/- LoadLoads: the law's walk. -/
import Derived.Test.YtkbnoceekileiaaLfr
import Derived.Test.YtkbnoceekileiaaEvh
import Derived.Test.YtkbnoceekileiaaEvl
import Derived.Test.YtkbnoceekileiaaSm1
namespace Go.Proofs.Ytkbnoceekileiaa
open Go Go.RowKit
set_option linter.unusedVariables false
set_option linter.unusedSimpArgs false
set_option maxRecDepth 100000
theorem nodesN_small {n b : Nat} (hb : 3 ≤ b) (hn : n ≤ 100) : nodesN n b ≤ 200 := by
  unfold nodesN
  split
  · omega
  · rename_i h0
    have h1 := nodesUp_le (b := b) (by omega) (partK n b) (partK n b)
    have h2 : partK n b ≤ 34 := by
      have h3 : (n - 1) / b ≤ (n - 1) / 3 := Nat.div_le_div_left hb (by omega)
      have h4 : partK n b = (n - 1) / b + 1 := rfl
      omega
    omega
set_option maxHeartbeats 200000000 in
theorem LoadLoads_walk (v : Value) (xs : List Int) (b : Int) (hb : 0 ≤ b ∧ b ≤ 255) (w : World) (R : RdV w v xs.length 1 (xs.map (Value.int .i64))) (hx : ∀ n ∈ xs, (Lit.int .i64 n).wf = true) :
    Calls Try.prog 10 #[v, .int .u8 b] w fun e w' => e = .returned (.bool true) ∧ Below w.heap.size w w' := by
  obtain ⟨av, cv, rfl⟩ := R.len
  have HR := Lib.hid R
  have CA := Lib.hid (Awake20_calls w)
  have CF := Lib.hid (fun z (hz : Heap w z []) => fresh_h hz b 300 hb (by decide))
  obtain ⟨bn, hbn⟩ : ∃ n : Nat, 3 + b % 6 = (n : Int) := ⟨(3 + b % 6).toNat, by omega⟩
  have hbb : 3 ≤ bn ∧ bn ≤ 8 := by omega
  have HBN := Lib.hid (And.intro hbn hbb)
  clear R hx hb hbn hbb
  by_cases hlt : xs.length ≤ 100
  · have hl1 : ¬ (100 : Int) < (xs.length : Int) := by omega
    have HLT := Lib.hid hlt
    clear hlt
    go_enter Try.func10, Try.ntmps10
    go_wp2_with fail
    refine CA.out.mono ?_
    rintro e w1 ⟨rfl, F1⟩
    have H1 := Lib.hid ((Heap.start w).go F1)
    clear CA F1
    go_wp2_with fail
    refine (CF.out _ H1.out).mono ?_
    rintro e w2 ⟨c, hc1, hc2, hc3, rfl, H2⟩
    rw [HBN.out.1]
    rw [HBN.out.1] at hc2
    have HC := Lib.hid (And.intro hc2 hc3)
    clear CF H1 hc1 hc2 hc3
    have CRG := Lib.hid (fun z l (hz : Heap w z l) => Rising_h hz (.slice av xs.length cv) xs (fun z l hz => HR.out.fr hz.fr (fun _ _ _ x => x)) (by have := HLT.out; omega))
    have hps := risingA_le xs
    have hpr := risingA_rises xs
    obtain ⟨ps, hpq⟩ : ∃ ps, risingA xs = ps := ⟨_, rfl⟩
    rw [hpq] at CRG hps hpr
    obtain ⟨lp, hlp⟩ : ∃ n, ps.length = n := ⟨_, rfl⟩
    have HLP := Lib.hid (And.intro hlp hpr)
    rw [hlp] at CRG hps
    have hpl : lp ≤ 100 := by have := HLT.out; omega
    have CR := Lib.hid (CRG.out _ _ H2)
    clear hps hpr hpq hlp H2
    go_wp2_with fail
    refine CR.out.mono ?_
    rintro e w5 ⟨pa, pc, rfl, H5⟩
    clear CR
    have H5 : Heap w w5 (wdL c (wd0 1 300 9) ++ [rowP 77 2 (.slice pa lp pc) lp (pairC ps)]) := H5
    have HNB := nodesN_le (n := lp) (b := bn) (by have := HBN.out.2; omega)
    obtain ⟨s, r, L, C2⟩ := fresh_load H5 HC.out.2 HC.out.1 ⟨by have := HBN.out.2; omega, by have := HBN.out.2; omega⟩ (.slice pa lp pc) ps (by rw [HLP.out.1]; omega) HLP.out.2 (fun z q l hz => by
      rw [HLP.out.1]
      exact ((Heap.swapF hz).row 4 (t := 77) (sz := 2) (n := lp) (v := .slice pa lp pc) (us := pairC ps) rfl).rdv) (by
      rw [HLP.out.1]
      have h10 := nodesN_small (n := lp) (b := bn) (by have := HBN.out.2; omega) hpl
      omega)
    have HL := Lib.hid L
    have C2 := Lib.hid C2
    clear H5 L HNB
    go_wp2_with fail
    refine C2.out.mono ?_
    rintro e w6 ⟨rfl, H6⟩
    have HH := Lib.hid H6
    clear C2 H6
    have hdp : dpSh (evenSh bn ps) ≤ 40 := dp_even (by have := HBN.out.2; omega) (by rw [HLP.out.1]; omega)
    have CRD := Lib.hid (Read_h HH.out ⟨HL.out.ok, by decide⟩ HL.out.way HL.out.tree hdp)
    have hsz := InAr.sz HL.out.ok _ _ HL.out.tree
    have hmn := many_even (b := bn) (by have := HBN.out.2; omega) ps
    rw [HLP.out.1] at hmn
    have hwr := wrongs_even (b := bn) (a := (bn + 1) / 2) (by have := HBN.out.2; omega) (by omega) ps
    have hfm : ((levP (evenSh bn ps)).2 && placedP (evenSh bn ps) false 0 false 0) = true := by
      rw [lev_even (by have := HBN.out.2; omega), placed_even (by have := HBN.out.2; omega) HLP.out.2.srt]; rfl
    obtain ⟨nn, hnn⟩ : ∃ x, nodesN lp bn = x := ⟨_, rfl⟩
    have hnb : nn ≤ 200 := by rw [← hnn]; exact nodesN_small (by have := HBN.out.2; omega) hpl
    have CE := Lib.hid (fun z (hz : RdV z (.slice pa lp pc) lp 2 (pairC ps)) => Even_h z (.slice pa lp pc) ps bn ⟨by have := HBN.out.2; omega, by have := HBN.out.2; omega⟩ (by rw [HLP.out.1]; omega) (by rw [HLP.out.1]; exact hz))
    unfold evenPost at CE
    have HUS : Hid (s.ar.used = 1 + (nn : Int) ∧ s.ar.faults = 0) := Lib.hid ⟨by rw [HL.out.used, HLP.out.1, hnn], HL.out.faults⟩
    rw [hnn] at hmn
    obtain ⟨sh, hsh⟩ : ∃ x, evenSh bn ps = x := ⟨_, rfl⟩
    rw [hsh] at CRD hdp hsz hmn hwr hfm CE
    obtain ⟨an, han⟩ : ∃ x, (bn + 1) / 2 = x := ⟨_, rfl⟩
    have HQ2 : Hid (IntKind.i64.wrap (((bn : Int) + 1).tdiv 2) = (an : Int)) := Lib.hid (by
      have h1 : ((bn : Int) + 1).tdiv 2 = (an : Int) := by
        rw [Int.tdiv_eq_ediv_of_nonneg (by omega)]
        omega
      have h2 := HBN.out.2
      rw [h1, IntKind.wrap_i64]
      omega)
    rw [han] at hwr
    clear han
    have HSH := Lib.hid (And.intro hdp (And.intro hsz (And.intro hmn (And.intro hwr hfm))))
    clear hdp hsz hmn hwr hfm hsh hnn HL
    go_wp2_with fail
    refine CRD.out.mono ?_
    rintro e w8 ⟨vs, rfl, H8⟩
    obtain ⟨kp1, kp2, kp3, kp4, kp5, kp6, rfl⟩ := H8.shForm 0 rfl
    have H9 := H8.allocF 33 #[.bool sh.lf, .bool sh.tg, .slice kp1 sh.ps.length kp2, .slice kp3 sh.ks.length kp4, .slice kp5 sh.kids.length kp6]
    obtain ⟨b8, hb8⟩ : ∃ x, w8.heap.size = x := ⟨_, rfl⟩
    obtain ⟨w9, hw9⟩ : ∃ z, w8.alloc (.cells #[.bool sh.lf, .bool sh.tg, .slice kp1 sh.ps.length kp2, .slice kp3 sh.ks.length kp4, .slice kp5 sh.kids.length kp6] 33) = z := ⟨_, rfl⟩
    rw [hb8, hw9] at H9
    have HWW := Lib.hid (And.intro hb8 hw9)
    have H9 : Heap w w9 ([blkP b8 33 #[.bool sh.lf, .bool sh.tg, .slice kp1 sh.ps.length kp2, .slice kp3 sh.ks.length kp4, .slice kp5 sh.kids.length kp6], shP sh ⟨.slice kp1 sh.ps.length kp2, .slice kp3 sh.ks.length kp4, .slice kp5 sh.kids.length kp6⟩] ++ (wdL c s ++ [rowP 77 2 (.slice pa lp pc) lp (pairC ps)])) := H9
    have HH := Lib.hid H9
    clear CRD H8 H9 hb8 hw9
    unfold shV
    dsimp only
    go_upto_region 10 with fail
    rw [HWW.out.1, HWW.out.2]
    clear HWW
    have HF : Hid (∀ z, (∃ l, Hid (Heap w z (l ++ ([blkP b8 33 #[.bool sh.lf, .bool sh.tg, .slice kp1 sh.ps.length kp2, .slice kp3 sh.ks.length kp4, .slice kp5 sh.kids.length kp6], shP sh ⟨.slice kp1 sh.ps.length kp2, .slice kp3 sh.ks.length kp4, .slice kp5 sh.kids.length kp6⟩] ++ (wdL c s ++ [rowP 77 2 (.slice pa lp pc) lp (pairC ps)]))))) → (World.cell? z ⟨b8, 0, none⟩ = some (.bool sh.lf) ∧ World.cell? z ⟨b8, 1, none⟩ = some (.bool sh.tg) ∧ World.cell? z ⟨b8, 2, none⟩ = some (.slice kp1 sh.ps.length kp2) ∧ World.cell? z ⟨b8, 3, none⟩ = some (.slice kp3 sh.ks.length kp4) ∧ World.cell? z ⟨b8, 4, none⟩ = some (.slice kp5 sh.kids.length kp6)) ∧ World.cell? z ⟨c.wb, 0, none⟩ = some (pt c.ab)) := Lib.hid (fun z ⟨l, hz⟩ => by
      have hz1 := Heap.swapF hz.out
      have X := hz1.blk 0 (b := b8) (t := 33) (c := #[.bool sh.lf, .bool sh.tg, .slice kp1 sh.ps.length kp2, .slice kp3 sh.ks.length kp4, .slice kp5 sh.kids.length kp6]) rfl
      have Y := hz1.blk 2 (b := c.wb) (t := 67) (c := c.cells) rfl
      exact ⟨⟨X.cell 0, X.cell 1, X.cell 2, X.cell 3, X.cell 4⟩, Y.cell 0⟩)
    have HG : Hid (∀ z l, Heap w z (l ++ ([blkP b8 33 #[.bool sh.lf, .bool sh.tg, .slice kp1 sh.ps.length kp2, .slice kp3 sh.ks.length kp4, .slice kp5 sh.kids.length kp6], shP sh ⟨.slice kp1 sh.ps.length kp2, .slice kp3 sh.ks.length kp4, .slice kp5 sh.kids.length kp6⟩] ++ (wdL c s ++ [rowP 77 2 (.slice pa lp pc) lp (pairC ps)]))) → (∃ S, ShIn z S sh ⟨.slice kp1 sh.ps.length kp2, .slice kp3 sh.ks.length kp4, .slice kp5 sh.kids.length kp6⟩) ∧ RdV z (.slice pa lp pc) lp 2 (pairC ps) ∧ (Heap w z (wdL c s ++ [rowP 77 2 (.slice pa lp pc) lp (pairC ps)]))) := Lib.hid (fun z l hz => by
      have hz1 := Heap.swapF hz
      obtain ⟨S, hS, _⟩ := hz1.get 1 rfl
      refine ⟨⟨S, hS⟩, (hz1.row 6 (t := 77) (sz := 2) (n := lp) (v := .slice pa lp pc) (us := pairC ps) rfl).rdv, ?_⟩
      have h2 : Heap w z ([blkP b8 33 #[.bool sh.lf, .bool sh.tg, .slice kp1 sh.ps.length kp2, .slice kp3 sh.ks.length kp4, .slice kp5 sh.kids.length kp6], shP sh ⟨.slice kp1 sh.ps.length kp2, .slice kp3 sh.ks.length kp4, .slice kp5 sh.kids.length kp6⟩] ++ ((wdL c s ++ [rowP 77 2 (.slice pa lp pc) lp (pairC ps)]) ++ l)) := hz1
      exact Heap.first (Heap.mid (l := []) h2))
    have HZ : Hid (Heap w (World.drew w9) ([] ++ ([blkP b8 33 #[.bool sh.lf, .bool sh.tg, .slice kp1 sh.ps.length kp2, .slice kp3 sh.ks.length kp4, .slice kp5 sh.kids.length kp6], shP sh ⟨.slice kp1 sh.ps.length kp2, .slice kp3 sh.ks.length kp4, .slice kp5 sh.kids.length kp6⟩] ++ (wdL c s ++ [rowP 77 2 (.slice pa lp pc) lp (pairC ps)])))) := Lib.hid HH.out.drew
    have hbn8 : bn ≤ 8 := HBN.out.2.2
    clear HH
    refine wp_region_noPanic ?_
    refine AnyK.start (ks := []) (S := fun w' => ∃ l, Hid (Heap w w' (l ++ ([blkP b8 33 #[.bool sh.lf, .bool sh.tg, .slice kp1 sh.ps.length kp2, .slice kp3 sh.ks.length kp4, .slice kp5 sh.kids.length kp6], shP sh ⟨.slice kp1 sh.ps.length kp2, .slice kp3 sh.ks.length kp4, .slice kp5 sh.kids.length kp6⟩] ++ (wdL c s ++ [rowP 77 2 (.slice pa lp pc) lp (pairC ps)]))))) (by kernel_rfl) (by exact ⟨[], HZ⟩) (fun _ => ?_)
    refine AnyK.take (i := 0) (v := ?_) rfl (by kernel_rfl) (by kernel_rfl) (by kernel_rfl) (by kernel_rfl) (fun _ _ _ h => h) (Or.inl ⟨by kernel_rfl, ?_⟩) (by exact ⟨[], HZ⟩) ?_
    rotate_left
    focus
      intro w9 hSw
      have hSw := HF.out w9 hSw
      go_simp
      try with_reducible rfl
    try simp only [Act.put, List.getElem_toArray, List.getElem_cons_zero, List.getElem_cons_succ, List.setIfInBounds_toArray, List.set_cons_zero, List.set_cons_succ]
    refine AnyK.take (i := 1) (v := ?_) rfl (by kernel_rfl) (by kernel_rfl) (by kernel_rfl) (by kernel_rfl) (fun _ _ _ h => h) (Or.inl ⟨by kernel_rfl, ?_⟩) (by exact ⟨[], HZ⟩) ?_
    rotate_left
    focus
      intro w9 hSw
      have hSw := HF.out w9 hSw
      go_simp
      try with_reducible rfl
    try simp only [Act.put, List.getElem_toArray, List.getElem_cons_zero, List.getElem_cons_succ, List.setIfInBounds_toArray, List.set_cons_zero, List.set_cons_succ]
    refine AnyK.take (i := 2) (v := ?_) rfl (by kernel_rfl) (by kernel_rfl) (by kernel_rfl) (by kernel_rfl) (fun _ _ _ h => h) (Or.inl ⟨by kernel_rfl, ?_⟩) (by exact ⟨[], HZ⟩) ?_
    rotate_left
    focus
      intro w9 hSw
      have hSw := HF.out w9 hSw
      go_simp
      try with_reducible rfl
    try simp only [Act.put, List.getElem_toArray, List.getElem_cons_zero, List.getElem_cons_succ, List.setIfInBounds_toArray, List.set_cons_zero, List.set_cons_succ]
    refine AnyK.one (i := 3) (by kernel_rfl) rfl (fun K9 hK9 => ?_)
    go_simp
    refine (CE.out _ (HG.out _ _ HZ.out).2.1).mono ?_
    rintro e3 w11 ⟨sv2, rfl, H3⟩
    obtain ⟨kq1, kq2, kq3, kq4, kq5, kq6, rfl⟩ := H3.shForm 0 rfl
    have H4 : Heap w w11 ([shP sh ⟨.slice kq1 sh.ps.length kq2, .slice kq3 sh.ks.length kq4, .slice kq5 sh.kids.length kq6⟩] ++ ([blkP b8 33 #[.bool sh.lf, .bool sh.tg, .slice kp1 sh.ps.length kp2, .slice kp3 sh.ks.length kp4, .slice kp5 sh.kids.length kp6], shP sh ⟨.slice kp1 sh.ps.length kp2, .slice kp3 sh.ks.length kp4, .slice kp5 sh.kids.length kp6⟩] ++ (wdL c s ++ [rowP 77 2 (.slice pa lp pc) lp (pairC ps)]))) := HZ.out.join H3
    have HA := Lib.hid H4
    clear H3 H4 HZ
    dsimp only [shV]
    refine hK9.out _ _ (fun _ => ⟨_, HA⟩) ?_
    clear hK9 K9
    try simp only [Act.put, List.getElem_toArray, List.getElem_cons_zero, List.getElem_cons_succ, List.setIfInBounds_toArray, List.set_cons_zero, List.set_cons_succ]
    refine AnyK.one (i := 4) (by kernel_rfl) rfl (fun K9 hK9 => ?_)
    go_simp
    obtain ⟨⟨S1, hS1⟩, _, _⟩ := HG.out _ _ HA.out
    obtain ⟨S2, hS2, _⟩ := HA.out.get 0 rfl
    refine (Same11_h 40 _ S1 S2 sh ⟨.slice kp1 sh.ps.length kp2, .slice kp3 sh.ks.length kp4, .slice kp5 sh.kids.length kp6⟩ ⟨.slice kq1 sh.ps.length kq2, .slice kq3 sh.ks.length kq4, .slice kq5 sh.kids.length kq6⟩ hS1 hS2 HSH.out.1).mono ?_
    clear hS1 hS2
    rintro e4 w12 ⟨rfl, F4⟩
    have HB := Lib.hid (HA.out.go F4)
    clear F4 HA
    dsimp only
    refine hK9.out _ _ (fun _ => ⟨_, HB⟩) ?_
    clear hK9 K9
    try simp only [Act.put, List.getElem_toArray, List.getElem_cons_zero, List.getElem_cons_succ, List.setIfInBounds_toArray, List.set_cons_zero, List.set_cons_succ]
    refine AnyK.take (i := 5) (v := ?_) rfl (by kernel_rfl) (by kernel_rfl) (by kernel_rfl) (by kernel_rfl) (fun _ _ _ h => h) (Or.inl ⟨by kernel_rfl, ?_⟩) (by exact ⟨_, HB⟩) ?_
    rotate_left
    focus
      intro w9 hSw
      have hSw := HF.out w9 hSw
      go_simp
      try with_reducible rfl
    try simp only [Act.put, List.getElem_toArray, List.getElem_cons_zero, List.getElem_cons_succ, List.setIfInBounds_toArray, List.set_cons_zero, List.set_cons_succ]
    refine AnyK.take (i := 6) (v := ?_) rfl (by kernel_rfl) (by kernel_rfl) (by kernel_rfl) (by kernel_rfl) (fun _ _ _ h => h) (Or.inl ⟨by kernel_rfl, ?_⟩) (by exact ⟨_, HB⟩) ?_
    rotate_left
    focus
      intro w9 hSw
      have hSw := HF.out w9 hSw
      go_simp
      try with_reducible rfl
    try simp only [Act.put, List.getElem_toArray, List.getElem_cons_zero, List.getElem_cons_succ, List.setIfInBounds_toArray, List.set_cons_zero, List.set_cons_succ]
    refine AnyK.take (i := 7) (v := ?_) rfl (by kernel_rfl) (by kernel_rfl) (by kernel_rfl) (by kernel_rfl) (fun _ _ _ h => h) (Or.inl ⟨by kernel_rfl, ?_⟩) (by exact ⟨_, HB⟩) ?_
    rotate_left
    focus
      intro w9 hSw
      have hSw := HF.out w9 hSw
      go_simp
      try with_reducible rfl
    try simp only [Act.put, List.getElem_toArray, List.getElem_cons_zero, List.getElem_cons_succ, List.setIfInBounds_toArray, List.set_cons_zero, List.set_cons_succ]
    refine AnyK.take (i := 8) (v := ?_) rfl (by kernel_rfl) (by kernel_rfl) (by kernel_rfl) (by kernel_rfl) (fun _ _ _ h => h) (Or.inl ⟨by kernel_rfl, ?_⟩) (by exact ⟨_, HB⟩) ?_
    rotate_left
    focus
      intro w9 hSw
      have hSw := HF.out w9 hSw
      go_simp
      try with_reducible rfl
    try simp only [Act.put, List.getElem_toArray, List.getElem_cons_zero, List.getElem_cons_succ, List.setIfInBounds_toArray, List.set_cons_zero, List.set_cons_succ]
    rw [show IntKind.i64.wrap ((bn : Int) + 1) = ((bn + 1 : Nat) : Int) by rw [IntKind.wrap_i64]; omega]
    refine AnyK.take (i := 9) (v := ?_) rfl (by kernel_rfl) (by kernel_rfl) (by kernel_rfl) (by kernel_rfl) (fun _ _ _ h => h) (Or.inl ⟨by kernel_rfl, ?_⟩) (by exact ⟨_, HB⟩) ?_
    rotate_left
    focus
      intro w9 hSw
      have hSw := HF.out w9 hSw
      go_simp
      try with_reducible rfl
    try simp only [Act.put, List.getElem_toArray, List.getElem_cons_zero, List.getElem_cons_succ, List.setIfInBounds_toArray, List.set_cons_zero, List.set_cons_succ]
    rw [HQ2.out]
    refine AnyK.one (i := 10) (by kernel_rfl) rfl (fun K9 hK9 => ?_)
    go_simp
    obtain ⟨⟨S1, hS1⟩, hRW, hHW⟩ := HG.out _ _ HB.out
    refine (Wrongs_h (an : Int) hS1 (by have := HSH.out.1; omega) (by rw [HSH.out.2.2.1]; omega)).mono ?_
    clear hS1 hRW hHW
    rintro e4 w30 ⟨rfl, F4⟩
    have HC1 := Lib.hid (HB.out.go F4)
    clear F4 HB
    rw [HSH.out.2.2.2.1]
    dsimp only
    refine hK9.out _ _ (fun _ => ⟨_, HC1⟩) ?_
    clear hK9 K9
    try simp only [Act.put, List.getElem_toArray, List.getElem_cons_zero, List.getElem_cons_succ, List.setIfInBounds_toArray, List.set_cons_zero, List.set_cons_succ]
    refine AnyK.take (i := 11) (v := ?_) rfl (by kernel_rfl) (by kernel_rfl) (by kernel_rfl) (by kernel_rfl) (fun _ _ _ h => h) (Or.inl ⟨by kernel_rfl, ?_⟩) (by exact ⟨_, HC1⟩) ?_
    rotate_left
    focus
      intro w9 hSw
      have hSw := HF.out w9 hSw
      go_simp
      try with_reducible rfl
    try simp only [Act.put, List.getElem_toArray, List.getElem_cons_zero, List.getElem_cons_succ, List.setIfInBounds_toArray, List.set_cons_zero, List.set_cons_succ]
    refine AnyK.take (i := 12) (v := ?_) rfl (by kernel_rfl) (by kernel_rfl) (by kernel_rfl) (by kernel_rfl) (fun _ _ _ h => h) (Or.inl ⟨by kernel_rfl, ?_⟩) (by exact ⟨_, HC1⟩) ?_
    rotate_left
    focus
      intro w9 hSw
      have hSw := HF.out w9 hSw
      go_simp
      try with_reducible rfl
    try simp only [Act.put, List.getElem_toArray, List.getElem_cons_zero, List.getElem_cons_succ, List.setIfInBounds_toArray, List.set_cons_zero, List.set_cons_succ]
    refine AnyK.take (i := 13) (v := ?_) rfl (by kernel_rfl) (by kernel_rfl) (by kernel_rfl) (by kernel_rfl) (fun _ _ _ h => h) (Or.inl ⟨by kernel_rfl, ?_⟩) (by exact ⟨_, HC1⟩) ?_
    rotate_left
    focus
      intro w9 hSw
      have hSw := HF.out w9 hSw
      go_simp
      try with_reducible rfl
    try simp only [Act.put, List.getElem_toArray, List.getElem_cons_zero, List.getElem_cons_succ, List.setIfInBounds_toArray, List.set_cons_zero, List.set_cons_succ]
    refine AnyK.take (i := 14) (v := ?_) rfl (by kernel_rfl) (by kernel_rfl) (by kernel_rfl) (by kernel_rfl) (fun _ _ _ h => h) (Or.inl ⟨by kernel_rfl, ?_⟩) (by exact ⟨_, HC1⟩) ?_
    rotate_left
    focus
      intro w9 hSw
      have hSw := HF.out w9 hSw
      go_simp
      try with_reducible rfl
    try simp only [Act.put, List.getElem_toArray, List.getElem_cons_zero, List.getElem_cons_succ, List.setIfInBounds_toArray, List.set_cons_zero, List.set_cons_succ]
    refine AnyK.one (i := 15) (by kernel_rfl) rfl (fun K9 hK9 => ?_)
    go_simp
    obtain ⟨⟨S1, hS1⟩, hRW, hHW⟩ := HG.out _ _ HC1.out
    refine (Firm_h hS1 (by have := HSH.out.1; omega) HSH.out.2.1).mono ?_
    clear hS1 hRW hHW
    rintro e4 w35 ⟨rfl, F4⟩
    have HD1 := Lib.hid (HC1.out.go F4)
    clear F4 HC1
    rw [HSH.out.2.2.2.2]
    dsimp only
    refine hK9.out _ _ (fun _ => ⟨_, HD1⟩) ?_
    clear hK9 K9
    try simp only [Act.put, List.getElem_toArray, List.getElem_cons_zero, List.getElem_cons_succ, List.setIfInBounds_toArray, List.set_cons_zero, List.set_cons_succ]
    refine AnyK.take (i := 16) (v := ?_) rfl (by kernel_rfl) (by kernel_rfl) (by kernel_rfl) (by kernel_rfl) (fun _ _ _ h => h) (Or.inl ⟨by kernel_rfl, ?_⟩) (by exact ⟨_, HD1⟩) ?_
    rotate_left
    focus
      intro w9 hSw
      have hSw := HF.out w9 hSw
      go_simp
      try with_reducible rfl
    try simp only [Act.put, List.getElem_toArray, List.getElem_cons_zero, List.getElem_cons_succ, List.setIfInBounds_toArray, List.set_cons_zero, List.set_cons_succ]
    refine AnyK.take (i := 17) (v := ?_) rfl (by kernel_rfl) (by kernel_rfl) (by kernel_rfl) (by kernel_rfl) (fun _ _ _ h => h) (Or.inl ⟨by kernel_rfl, ?_⟩) (by exact ⟨_, HD1⟩) ?_
    rotate_left
    focus
      intro w9 hSw
      have hSw := HF.out w9 hSw
      go_simp
      try with_reducible rfl
    try simp only [Act.put, List.getElem_toArray, List.getElem_cons_zero, List.getElem_cons_succ, List.setIfInBounds_toArray, List.set_cons_zero, List.set_cons_succ]
    refine AnyK.take (i := 18) (v := ?_) rfl (by kernel_rfl) (by kernel_rfl) (by kernel_rfl) (by kernel_rfl) (fun _ _ _ h => h) (Or.inl ⟨by kernel_rfl, ?_⟩) (by exact ⟨_, HD1⟩) ?_
    rotate_left
    focus
      intro w9 hSw
      have hSw := HF.out w9 hSw
      go_simp
      try with_reducible rfl
    try simp only [Act.put, List.getElem_toArray, List.getElem_cons_zero, List.getElem_cons_succ, List.setIfInBounds_toArray, List.set_cons_zero, List.set_cons_succ]
    refine AnyK.take (i := 19) (v := ?_) rfl (by kernel_rfl) (by kernel_rfl) (by kernel_rfl) (by kernel_rfl) (fun _ _ _ h => h) (Or.inl ⟨by kernel_rfl, ?_⟩) (by exact ⟨_, HD1⟩) ?_
    rotate_left
    focus
      intro w9 hSw
      have hSw := HF.out w9 hSw
      go_simp
      try with_reducible rfl
    try simp only [Act.put, List.getElem_toArray, List.getElem_cons_zero, List.getElem_cons_succ, List.setIfInBounds_toArray, List.set_cons_zero, List.set_cons_succ]
    refine AnyK.take (i := 20) (v := ?_) rfl (by kernel_rfl) (by kernel_rfl) (by kernel_rfl) (by kernel_rfl) (fun _ _ _ h => h) (Or.inl ⟨by kernel_rfl, ?_⟩) (by exact ⟨_, HD1⟩) ?_
    rotate_left
    focus
      intro w9 hSw
      have hSw := HF.out w9 hSw
      go_simp
      try with_reducible rfl
    try simp only [Act.put, List.getElem_toArray, List.getElem_cons_zero, List.getElem_cons_succ, List.setIfInBounds_toArray, List.set_cons_zero, List.set_cons_succ]
    refine AnyK.take (i := 21) (v := ?_) rfl (by kernel_rfl) (by kernel_rfl) (by kernel_rfl) (by kernel_rfl) (fun _ _ _ h => h) (Or.inl ⟨by kernel_rfl, ?_⟩) (by exact ⟨_, HD1⟩) ?_
    rotate_left
    focus
      intro w9 hSw
      have hSw := HF.out w9 hSw
      go_simp
      try with_reducible rfl
    try simp only [Act.put, List.getElem_toArray, List.getElem_cons_zero, List.getElem_cons_succ, List.setIfInBounds_toArray, List.set_cons_zero, List.set_cons_succ]
    refine AnyK.take (i := 23) (v := ?_) rfl (by kernel_rfl) (by kernel_rfl) (by kernel_rfl) (by kernel_rfl) (fun _ _ _ h => h) (Or.inl ⟨by kernel_rfl, ?_⟩) (by exact ⟨_, HD1⟩) ?_
    rotate_left
    focus
      intro w9 hSw
      have hSw := HF.out w9 hSw
      go_simp
      try with_reducible rfl
    try simp only [Act.put, List.getElem_toArray, List.getElem_cons_zero, List.getElem_cons_succ, List.setIfInBounds_toArray, List.set_cons_zero, List.set_cons_succ]
    refine AnyK.one (i := 22) (by kernel_rfl) rfl (fun K9 hK9 => ?_)
    go_simp
    obtain ⟨_, hRW, hHW⟩ := HG.out _ _ HD1.out
    refine (Used_h hHW 1 rfl).mono ?_
    rintro e4 w42 ⟨rfl, hw⟩
    have HE1 := HD1
    rw [← hw] at HE1
    clear hRW hHW hw HD1
    rw [HUS.out.1]
    dsimp only
    refine hK9.out _ _ (fun _ => ⟨_, HE1⟩) ?_
    clear hK9 K9
    try simp only [Act.put, List.getElem_toArray, List.getElem_cons_zero, List.getElem_cons_succ, List.setIfInBounds_toArray, List.set_cons_zero, List.set_cons_succ]
    refine AnyK.one (i := 24) (by kernel_rfl) rfl (fun K9 hK9 => ?_)
    go_simp
    obtain ⟨⟨S1, hS1⟩, hRW, hHW⟩ := HG.out _ _ HE1.out
    refine (Many_h 40 _ S1 sh ⟨.slice kp1 sh.ps.length kp2, .slice kp3 sh.ks.length kp4, .slice kp5 sh.kids.length kp6⟩ hS1 HSH.out.1 (by rw [HSH.out.2.2.1]; omega)).mono ?_
    clear hS1 hRW hHW
    rintro e4 w44 ⟨rfl, F4⟩
    have HF1 := Lib.hid (HE1.out.go F4)
    clear F4 HE1
    rw [HSH.out.2.2.1]
    dsimp only
    refine hK9.out _ _ (fun _ => ⟨_, HF1⟩) ?_
    clear hK9 K9
    try simp only [Act.put, List.getElem_toArray, List.getElem_cons_zero, List.getElem_cons_succ, List.setIfInBounds_toArray, List.set_cons_zero, List.set_cons_succ]
    refine AnyK.take (i := 25) (v := ?_) rfl (by kernel_rfl) (by kernel_rfl) (by kernel_rfl) (by kernel_rfl) (fun _ _ _ h => h) (Or.inl ⟨by kernel_rfl, ?_⟩) (by exact ⟨_, HF1⟩) ?_
    rotate_left
    focus
      intro w9 hSw
      have hSw := HF.out w9 hSw
      go_simp
      try with_reducible rfl
    try simp only [Act.put, List.getElem_toArray, List.getElem_cons_zero, List.getElem_cons_succ, List.setIfInBounds_toArray, List.set_cons_zero, List.set_cons_succ]
    rw [show IntKind.i64.wrap (1 + (nn : Int)) = 1 + (nn : Int) by rw [IntKind.wrap_i64]; omega]
    refine AnyK.take (i := 26) (v := ?_) rfl (by kernel_rfl) (by kernel_rfl) (by kernel_rfl) (by kernel_rfl) (fun _ _ _ h => h) (Or.inl ⟨by kernel_rfl, ?_⟩) (by exact ⟨_, HF1⟩) ?_
    rotate_left
    focus
      intro w9 hSw
      have hSw := HF.out w9 hSw
      go_simp
      try with_reducible rfl
    try simp only [Act.put, List.getElem_toArray, List.getElem_cons_zero, List.getElem_cons_succ, List.setIfInBounds_toArray, List.set_cons_zero, List.set_cons_succ]
    refine AnyK.take (i := 27) (v := ?_) rfl (by kernel_rfl) (by kernel_rfl) (by kernel_rfl) (by kernel_rfl) (fun _ _ _ h => h) (Or.inl ⟨by kernel_rfl, ?_⟩) (by exact ⟨_, HF1⟩) ?_
    rotate_left
    focus
      intro w9 hSw
      have hSw := HF.out w9 hSw
      go_simp
      try with_reducible rfl
    try simp only [Act.put, List.getElem_toArray, List.getElem_cons_zero, List.getElem_cons_succ, List.setIfInBounds_toArray, List.set_cons_zero, List.set_cons_succ]
    refine AnyK.take (i := 28) (v := ?_) rfl (by kernel_rfl) (by kernel_rfl) (by kernel_rfl) (by kernel_rfl) (fun _ _ _ h => h) (Or.inl ⟨by kernel_rfl, ?_⟩) (by exact ⟨_, HF1⟩) ?_
    rotate_left
    focus
      intro w9 hSw
      have hSw := HF.out w9 hSw
      go_simp
      try with_reducible rfl
    try simp only [Act.put, List.getElem_toArray, List.getElem_cons_zero, List.getElem_cons_succ, List.setIfInBounds_toArray, List.set_cons_zero, List.set_cons_succ]
    refine AnyK.take (i := 29) (v := ?_) rfl (by kernel_rfl) (by kernel_rfl) (by kernel_rfl) (by kernel_rfl) (fun _ _ _ h => h) (Or.inl ⟨by kernel_rfl, ?_⟩) (by exact ⟨_, HF1⟩) ?_
    rotate_left
    focus
      intro w9 hSw
      have hSw := HF.out w9 hSw
      go_simp
      try with_reducible rfl
    try simp only [Act.put, List.getElem_toArray, List.getElem_cons_zero, List.getElem_cons_succ, List.setIfInBounds_toArray, List.set_cons_zero, List.set_cons_succ]
    refine AnyK.take (i := 30) (v := ?_) rfl (by kernel_rfl) (by kernel_rfl) (by kernel_rfl) (by kernel_rfl) (fun _ _ _ h => h) (Or.inl ⟨by kernel_rfl, ?_⟩) (by exact ⟨_, HF1⟩) ?_
    rotate_left
    focus
      intro w9 hSw
      have hSw := HF.out w9 hSw
      go_simp
      try with_reducible rfl
    try simp only [Act.put, List.getElem_toArray, List.getElem_cons_zero, List.getElem_cons_succ, List.setIfInBounds_toArray, List.set_cons_zero, List.set_cons_succ]
    refine AnyK.take (i := 31) (v := ?_) rfl (by kernel_rfl) (by kernel_rfl) (by kernel_rfl) (by kernel_rfl) (fun _ _ _ h => h) (Or.inl ⟨by kernel_rfl, ?_⟩) (by exact ⟨_, HF1⟩) ?_
    rotate_left
    focus
      intro w9 hSw
      have hSw := HF.out w9 hSw
      go_simp
      try with_reducible rfl
    try simp only [Act.put, List.getElem_toArray, List.getElem_cons_zero, List.getElem_cons_succ, List.setIfInBounds_toArray, List.set_cons_zero, List.set_cons_succ]
    refine AnyK.take (i := 32) (v := ?_) rfl (by kernel_rfl) (by kernel_rfl) (by kernel_rfl) (by kernel_rfl) (fun _ _ _ h => h) (Or.inl ⟨by kernel_rfl, ?_⟩) (by exact ⟨_, HF1⟩) ?_
    rotate_left
    focus
      intro w9 hSw
      have hSw := HF.out w9 hSw
      go_simp
      try with_reducible rfl
    try simp only [Act.put, List.getElem_toArray, List.getElem_cons_zero, List.getElem_cons_succ, List.setIfInBounds_toArray, List.set_cons_zero, List.set_cons_succ]
    refine AnyK.one (i := 33) (by kernel_rfl) rfl (fun K9 hK9 => ?_)
    go_simp
    obtain ⟨_, hRW, hHW⟩ := HG.out _ _ HF1.out
    refine (Faults_h hHW 1 rfl).mono ?_
    rintro e4 w43 ⟨rfl, hw⟩
    have HG1 := HF1
    rw [← hw] at HG1
    clear hRW hHW hw HF1
    rw [HUS.out.2]
    dsimp only
    refine hK9.out _ _ (fun _ => ⟨_, HG1⟩) ?_
    clear hK9 K9
    try simp only [Act.put, List.getElem_toArray, List.getElem_cons_zero, List.getElem_cons_succ, List.setIfInBounds_toArray, List.set_cons_zero, List.set_cons_succ]
    refine AnyK.take (i := 34) (v := ?_) rfl (by kernel_rfl) (by kernel_rfl) (by kernel_rfl) (by kernel_rfl) (fun _ _ _ h => h) (Or.inl ⟨by kernel_rfl, ?_⟩) (by exact ⟨_, HG1⟩) ?_
    rotate_left
    focus
      intro w9 hSw
      have hSw := HF.out w9 hSw
      go_simp
      try with_reducible rfl
    try simp only [Act.put, List.getElem_toArray, List.getElem_cons_zero, List.getElem_cons_succ, List.setIfInBounds_toArray, List.set_cons_zero, List.set_cons_succ]
    refine AnyK.take (i := 35) (v := ?_) rfl (by kernel_rfl) (by kernel_rfl) (by kernel_rfl) (by kernel_rfl) (fun _ _ _ h => h) (Or.inl ⟨by kernel_rfl, ?_⟩) (by exact ⟨_, HG1⟩) ?_
    rotate_left
    focus
      intro w9 hSw
      have hSw := HF.out w9 hSw
      go_simp
      try with_reducible rfl
    try simp only [Act.put, List.getElem_toArray, List.getElem_cons_zero, List.getElem_cons_succ, List.setIfInBounds_toArray, List.set_cons_zero, List.set_cons_succ]
    refine AnyK.take (i := 36) (v := ?_) rfl (by kernel_rfl) (by kernel_rfl) (by kernel_rfl) (by kernel_rfl) (fun _ _ _ h => h) (Or.inl ⟨by kernel_rfl, ?_⟩) (by exact ⟨_, HG1⟩) ?_
    rotate_left
    focus
      intro w9 hSw
      have hSw := HF.out w9 hSw
      go_simp
      try with_reducible rfl
    try simp only [Act.put, List.getElem_toArray, List.getElem_cons_zero, List.getElem_cons_succ, List.setIfInBounds_toArray, List.set_cons_zero, List.set_cons_succ]
    refine AnyK.take (i := 37) (v := ?_) rfl (by kernel_rfl) (by kernel_rfl) (by kernel_rfl) (by kernel_rfl) (fun _ _ _ h => h) (Or.inl ⟨by kernel_rfl, ?_⟩) (by exact ⟨_, HG1⟩) ?_
    rotate_left
    focus
      intro w9 hSw
      have hSw := HF.out w9 hSw
      go_simp
      try with_reducible rfl
    try simp only [Act.put, List.getElem_toArray, List.getElem_cons_zero, List.getElem_cons_succ, List.setIfInBounds_toArray, List.set_cons_zero, List.set_cons_succ]
    refine AnyK.take (i := 38) (v := ?_) rfl (by kernel_rfl) (by kernel_rfl) (by kernel_rfl) (by kernel_rfl) (fun _ _ _ h => h) (Or.inl ⟨by kernel_rfl, ?_⟩) (by exact ⟨_, HG1⟩) ?_
    rotate_left
    focus
      intro w9 hSw
      have hSw := HF.out w9 hSw
      go_simp
      try with_reducible rfl
    try simp only [Act.put, List.getElem_toArray, List.getElem_cons_zero, List.getElem_cons_succ, List.setIfInBounds_toArray, List.set_cons_zero, List.set_cons_succ]
    refine AnyK.one (i := 39) (by kernel_rfl) rfl (fun K9 hK9 => ?_)
    go_simp
    refine (CRG.out _ _ HG1.out).mono ?_
    rintro e4 w44 ⟨qa, qc, rfl, H9⟩
    have HH1 := Lib.hid (Heap.lastF H9)
    clear H9 HG1
    dsimp only
    refine hK9.out _ _ (fun _ => ⟨_ :: _, HH1⟩) ?_
    clear hK9 K9
    try simp only [Act.put, List.getElem_toArray, List.getElem_cons_zero, List.getElem_cons_succ, List.setIfInBounds_toArray, List.set_cons_zero, List.set_cons_succ]
    refine AnyK.one (i := 40) (by kernel_rfl) rfl (fun K9 hK9 => ?_)
    go_simp
    have HSS := SameP_calls (.slice pa lp pc) (.slice qa lp qc) ps _ (by rw [HLP.out.1]; exact (HG.out _ (_ :: _) HH1.out).2.1) (by rw [HLP.out.1]; exact (HH1.out.row 0 rfl).rdv)
    refine HSS.mono ?_
    clear HSS
    rintro e4 w45 ⟨rfl, nq, rfl⟩
    have HLAST := Lib.hid (HH1.out.drewN nq)
    clear HH1
    dsimp only
    refine hK9.out _ _ (fun _ => ⟨_ :: _, HLAST⟩) ?_
    clear hK9 K9
    try simp only [Act.put, List.getElem_toArray, List.getElem_cons_zero, List.getElem_cons_succ, List.setIfInBounds_toArray, List.set_cons_zero, List.set_cons_succ]
    refine AnyK.take (i := 41) (v := ?_) rfl (by kernel_rfl) (by kernel_rfl) (by kernel_rfl) (by kernel_rfl) (fun _ _ _ h => h) (Or.inl ⟨by kernel_rfl, ?_⟩) (by exact ⟨_ :: _, HLAST⟩) ?_
    rotate_left
    focus
      intro w9 hSw
      have hSw := HF.out w9 hSw
      go_simp
      try with_reducible rfl
    try simp only [Act.put, List.getElem_toArray, List.getElem_cons_zero, List.getElem_cons_succ, List.setIfInBounds_toArray, List.set_cons_zero, List.set_cons_succ]
    refine AnyK.take (i := 42) (v := ?_) rfl (by kernel_rfl) (by kernel_rfl) (by kernel_rfl) (by kernel_rfl) (fun _ _ _ h => h) (Or.inl ⟨by kernel_rfl, ?_⟩) (by exact ⟨_ :: _, HLAST⟩) ?_
    rotate_left
    focus
      intro w9 hSw
      have hSw := HF.out w9 hSw
      go_simp
      try with_reducible rfl
    try simp only [Act.put, List.getElem_toArray, List.getElem_cons_zero, List.getElem_cons_succ, List.setIfInBounds_toArray, List.set_cons_zero, List.set_cons_succ]
    refine AnyK.done (by kernel_rfl) ?_ _
    refine NoPanic.normal ?_
    go_wp2_with fail
    go_ret
    exact ⟨rfl, HLAST.out.below⟩
  · have hl1 : (100 : Int) < (xs.length : Int) := by omega
    clear hlt
    go_enter Try.func10, Try.ntmps10
    go_wp2_with fail
    refine CA.out.mono ?_
    rintro e w1 ⟨rfl, F1⟩
    have H1 := Lib.hid ((Heap.start w).go F1)
    clear CA F1
    go_wp2_with fail
    go_ret
    exact ⟨rfl, H1.out.below⟩
end Go.Proofs.Ytkbnoceekileiaa
