/- load.Load: the nodes of the even tree. No condition but the bounds of size, and that there is room. -/
import Derived.Test.YtkbnoceekileiaaLdb
import Derived.Test.YtkbnoceekileiaaLdr
import Derived.Deep.DeepCutAuto
import Derived.Deep.CutRange
namespace Go.Proofs.Ytkbnoceekileiaa
open Go Go.RowKit
set_option linter.unusedVariables false
set_option linter.unusedSimpArgs false
set_option maxRecDepth 100000
def lenV : Value → Nat | .slice _ n _ => n | _ => 0
theorem leafN_all {n b : Nat} (l : List (Int × Int)) : leafN n b (partK n b) l = leafNds (partsN n b) l := by unfold leafN; rw [List.take_of_length_le (by rw [partsN_len]; exact Nat.le_refl _)]
theorem leafK_all {n b : Nat} (l : List (Int × Int)) : leafK n b (partK n b) l = leafKeys (partsN n b) l := by unfold leafK; rw [List.take_of_length_le (by rw [partsN_len]; exact Nat.le_refl _)]
theorem room_ld {c : Wc} {s : Wd} {old : Int} {nd : Nd} {N T : Nat} (h : LdAt c s old nd N) (hN : N ≤ 100) (hf : s.ar.free = []) (hr : s.ar.used + (T : Int) ≤ s.ar.most) (hT : T ≤ 50000) : Room s.ar T := by
  have h1 := (h.ok.up hN).few
  exact ⟨h.ok.up hN, hf, hr, by omega⟩
theorem Room.less {ar : Ar} {T T' : Nat} (h : Room ar T) (hT : T' ≤ T) : Room ar T' := ⟨h.ok, h.free, by have := h.room; omega, by have := h.few; omega⟩
theorem heap_front {w0 w : World} {A W D Z : List Piece} (h : Heap w0 w (A ++ (W ++ (D ++ Z)))) : Heap w0 w (W ++ (A ++ Z)) := by
  have h1 := Heap.mid (l := A ++ W) (m := D) (r := Z) (by simpa using h)
  have h2 : Heap w0 w ([] ++ (W ++ Z) ++ A) := Heap.swapE (A := []) (B := A) (C := W ++ Z) (by simpa using h1)
  have h3 := Heap.swapE (A := W) (B := Z) (C := A) (by simpa using h2)
  simpa using h3
set_option maxHeartbeats 200000000 in
theorem Load_yes {w0 w : World} {c : Wc} {s : Wd} {Z : List Piece} {old : Int} {nd : Nd} {N : Nat} (h : Heap w0 w (wdL c s ++ Z)) (at_ : LdAt c s old nd N) (v : Value) (ps : List (Int × Int)) (hps : ps.length ≤ 10000) (hR : ∀ z q l, Heap w0 z (l ++ (wdQ c s q ++ Z)) → RdV z v ps.length 2 (pairC ps)) {b : Nat} (hb : 2 ≤ b ∧ b ≤ 1000000) (hcb : c.b = (b : Int)) (hris : RisesP ps) (hno : nd.inner = false ∧ nd.pairs = []) (hz : ps ≠ []) (hm : ¬ s.ar.most < s.ar.used + (nodesN ps.length b : Int) ∧ N ≤ 100 ∧ s.ar.free = []) :
    Calls Try.prog 29 #[.pointer (some ⟨c.wb, 0, none⟩), v] w fun e w' => e = .returned (.int .i64 0) ∧ Heap w0 w' (wdL c (loadW c s b old ps) ++ Z) := by
  obtain ⟨va, vc, rfl⟩ := (hR _ (areP c.ab s.ar) [] h).len
  obtain ⟨e0, e4, e5⟩ := wb_cells (l := []) (q := areP c.ab s.ar) h
  have CR := Lib.hid (LRisesB_calls _ ps w (hR _ (areP c.ab s.ar) [] h) true (by simp [hris]))
  have HH := Lib.hid h
  have HAT := Lib.hid at_
  have HR := Lib.hid hR
  have HRS := Lib.hid hris
  have HNO := Lib.hid hno
  have HZZ := Lib.hid hz
  clear hno hz
  have HB := Lib.hid (And.intro hb.1 (And.intro hb.2 hcb))
  clear hb hcb
  have HM := Lib.hid hm
  clear hm
  clear h at_ hR hris
  go_enter Try.func29, Try.ntmps29
  go_wp2_with (refine CR.out.mono ?_; rintro e w2 ⟨rfl, hw2⟩)
  have H2 := HH.out.go hw2
  clear HH CR hw2 e0 e4 e5
  have HH := Lib.hid H2
  clear H2
  go_upto_region 5 with fail
  have HZ := Lib.hid (HH.out.drew)
  clear HH
  have HF : Hid (∀ z, (∃ l, Hid (Heap w0 z (l ++ (wdL c s ++ Z)))) → World.cell? z ⟨c.wb, 0, none⟩ = some (pt c.ab) ∧ World.cell? z ⟨c.wb, 5, none⟩ = some (.int .i64 c.entry)) := Lib.hid (fun z ⟨l, hz⟩ => ⟨(wb_cells (q := areP c.ab s.ar) hz.out).1, (wb_cells (q := areP c.ab s.ar) hz.out).2.2⟩)
  go_cut [5] from 25 to 33 (fun s5 wx => s5 = .int .i64 old ∧ Hid (Heap w0 wx (wdL c s ++ Z)))
  case first =>
    refine wp_region_noPanic ?_
    refine AnyK.start (ks := [8, 9]) (S := fun w' => ∃ l, Hid (Heap w0 w' (l ++ (wdL c s ++ Z)))) (by kernel_rfl) (by exact ⟨[], HZ⟩) (fun _ => ?_)
    refine AnyK.takeB (i := 0) (v := ?_) rfl (by kernel_rfl) (by kernel_rfl) (by kernel_rfl) (by kernel_rfl) (fun _ _ _ h => h) (Or.inl ⟨by kernel_rfl, ?_⟩) (by exact ⟨[], HZ⟩) ?_
    rotate_left
    focus
      intro w9 hSw
      have hSw := HF.out w9 hSw
      go_simp
      try with_reducible rfl
    try simp only [Act.put, List.getElem_toArray, List.getElem_cons_zero, List.getElem_cons_succ, List.setIfInBounds_toArray, List.set_cons_zero, List.set_cons_succ]
    refine AnyK.takeB (i := 1) (v := ?_) rfl (by kernel_rfl) (by kernel_rfl) (by kernel_rfl) (by kernel_rfl) (fun _ _ _ h => h) (Or.inl ⟨by kernel_rfl, ?_⟩) (by exact ⟨[], HZ⟩) ?_
    rotate_left
    focus
      intro w9 hSw
      have hSw := HF.out w9 hSw
      go_simp
      try with_reducible rfl
    try simp only [Act.put, List.getElem_toArray, List.getElem_cons_zero, List.getElem_cons_succ, List.setIfInBounds_toArray, List.set_cons_zero, List.set_cons_succ]
    refine AnyK.takeB (i := 2) (v := ?_) rfl (by kernel_rfl) (by kernel_rfl) (by kernel_rfl) (by kernel_rfl) (fun _ _ _ h => h) (Or.inl ⟨by kernel_rfl, ?_⟩) (by exact ⟨[], HZ⟩) ?_
    rotate_left
    focus
      intro w9 hSw
      have hSw := HF.out w9 hSw
      go_simp
      try with_reducible rfl
    try simp only [Act.put, List.getElem_toArray, List.getElem_cons_zero, List.getElem_cons_succ, List.setIfInBounds_toArray, List.set_cons_zero, List.set_cons_succ]
    refine AnyK.takeB (i := 3) (v := ?_) rfl (by kernel_rfl) (by kernel_rfl) (by kernel_rfl) (by kernel_rfl) (fun _ _ _ h => h) (Or.inl ⟨by kernel_rfl, ?_⟩) (by exact ⟨[], HZ⟩) ?_
    rotate_left
    focus
      intro w9 hSw
      have hSw := HF.out w9 hSw
      go_simp
      try with_reducible rfl
    try simp only [Act.put, List.getElem_toArray, List.getElem_cons_zero, List.getElem_cons_succ, List.setIfInBounds_toArray, List.set_cons_zero, List.set_cons_succ]
    refine AnyK.takeB (i := 4) (v := ?_) rfl (by kernel_rfl) (by kernel_rfl) (by kernel_rfl) (by kernel_rfl) (fun _ _ _ h => h) (Or.inl ⟨by kernel_rfl, ?_⟩) (by exact ⟨[], HZ⟩) ?_
    rotate_left
    focus
      intro w9 hSw
      have hSw := HF.out w9 hSw
      go_simp
      try with_reducible rfl
    try simp only [Act.put, List.getElem_toArray, List.getElem_cons_zero, List.getElem_cons_succ, List.setIfInBounds_toArray, List.set_cons_zero, List.set_cons_succ]
    refine AnyK.takeB (i := 5) (v := ?_) rfl (by kernel_rfl) (by kernel_rfl) (by kernel_rfl) (by kernel_rfl) (fun _ _ _ h => h) (Or.inl ⟨by kernel_rfl, ?_⟩) (by exact ⟨[], HZ⟩) ?_
    rotate_left
    focus
      intro w9 hSw
      have hSw := HF.out w9 hSw
      go_simp
      try with_reducible rfl
    try simp only [Act.put, List.getElem_toArray, List.getElem_cons_zero, List.getElem_cons_succ, List.setIfInBounds_toArray, List.set_cons_zero, List.set_cons_succ]
    refine AnyK.takeB (i := 6) (v := ?_) rfl (by kernel_rfl) (by kernel_rfl) (by kernel_rfl) (by kernel_rfl) (fun _ _ _ h => h) (Or.inl ⟨by kernel_rfl, ?_⟩) (by exact ⟨[], HZ⟩) ?_
    rotate_left
    focus
      intro w9 hSw
      have hSw := HF.out w9 hSw
      go_simp
      try with_reducible rfl
    try simp only [Act.put, List.getElem_toArray, List.getElem_cons_zero, List.getElem_cons_succ, List.setIfInBounds_toArray, List.set_cons_zero, List.set_cons_succ]
    refine AnyK.takeB (i := 7) (v := ?_) rfl (by kernel_rfl) (by kernel_rfl) (by kernel_rfl) (by kernel_rfl) (fun _ _ _ h => h) (Or.inl ⟨by kernel_rfl, ?_⟩) (by exact ⟨[], HZ⟩) ?_
    rotate_left
    focus
      intro w9 hSw
      have hSw := HF.out w9 hSw
      go_simp
      try with_reducible rfl
    try simp only [Act.put, List.getElem_toArray, List.getElem_cons_zero, List.getElem_cons_succ, List.setIfInBounds_toArray, List.set_cons_zero, List.set_cons_succ]
    refine AnyK.one (i := 8) (by kernel_rfl) rfl (fun K9 hK9 => ?_)
    go_simp
    refine (Way_h HZ.out 1 rfl (HAT.out.ok.ok HAT.out.big) c.entry 0).mono ?_
    rintro e w5 ⟨rfl, H9⟩
    rw [HAT.out.way]
    rw [HAT.out.way] at H9
    have H9 : Heap w0 w5 (wdL c s ++ Z) := H9
    have H5 := Lib.hid H9
    clear H9
    dsimp only
    refine hK9.out _ _ (fun h => absurd (by decide) h) ?_
    clear hK9 K9
    try simp only [Act.put, List.getElem_toArray, List.getElem_cons_zero, List.getElem_cons_succ, List.setIfInBounds_toArray, List.set_cons_zero, List.set_cons_succ]
    refine AnyK.phase (S' := fun _ => True) (ks' := []) (by kernel_rfl) ?_
    refine AnyK.take (i := 9) (v := ?_) rfl (by kernel_rfl) (by kernel_rfl) (by kernel_rfl) (by kernel_rfl) (fun _ _ _ h => h) (Or.inl ⟨by rfl, ?_⟩) (by exact trivial) ?_
    rotate_left
    focus
      intro w9 hSw
      try dsimp only at hSw
      go_simp
      try with_reducible rfl
    try simp only [Act.put, List.getElem_toArray, List.getElem_cons_zero, List.getElem_cons_succ, List.setIfInBounds_toArray, List.set_cons_zero, List.set_cons_succ]
    refine AnyK.done (by kernel_rfl) ?_ _
    refine NoPanic.normal ?_
    go_wp2_with fail
    go_meet
    exact ⟨rfl, H5⟩
  case rest =>
  obtain ⟨rfl, HH⟩ := hcut
  clear HF HZ
  rename World => w3
  obtain ⟨e0, e4, e5⟩ := wb_cells (l := []) (q := areP c.ab s.ar) HH.out
  have CL := Look_h HH.out 1 rfl (HAT.out.ok.ok HAT.out.big) HAT.out.ok.nds old
  rw [HAT.out.look] at CL
  have CL := Lib.hid CL
  clear HH
  go_wp2_with fail
  refine CL.out.mono ?_
  rintro e w6 ⟨vp, vk, vn, rfl, H6⟩
  have H6 : Heap w0 w6 (wdL c s ++ Z ++ ndL nd vp vk vn) := H6
  have H6 := Heap.swapF H6
  obtain ⟨ap, cp, rfl, _⟩ := (H6.row 0 rfl).form
  obtain ⟨ak, ck, rfl, _⟩ := (H6.row 1 rfl).form
  obtain ⟨an, cn, rfl, _⟩ := (H6.row 2 rfl).form
  have H7 := H6.allocF 112 #[.bool nd.inner, .bool nd.tagged, .slice ap nd.pairs.length cp, .slice ak nd.keys.length ck, .slice an nd.ways.length cn]
  obtain ⟨lp, hlp⟩ : ∃ n, nd.pairs.length = n := ⟨_, rfl⟩
  obtain ⟨P, hP⟩ : ∃ r, w6.heap.size = r := ⟨_, rfl⟩
  obtain ⟨w7, hw7⟩ : ∃ z, w6.alloc (.cells #[.bool nd.inner, .bool nd.tagged, .slice ap nd.pairs.length cp, .slice ak nd.keys.length ck, .slice an nd.ways.length cn] 112) = z := ⟨_, rfl⟩
  rw [hP, hw7] at H7
  have B7 := H7.blk 0 rfl
  have z0 := B7.cell 0
  have z2 := B7.cell 2
  have HH := Lib.hid (H7.tailP.tailP.tailP.tailP)
  have HWW := Lib.hid (And.intro hP hw7)
  have HLP := Lib.hid hlp
  rw [HLP.out] at z2
  unfold ndV
  clear CL H6 H7 B7 hP hw7 hlp
  go_upto_region 7 with fail
  rw [HWW.out.1, HWW.out.2]
  clear HWW
  obtain ⟨inn, hin⟩ : ∃ x, nd.inner = x := ⟨_, rfl⟩
  rw [hin] at z0
  have HIN := Lib.hid hin
  clear hin
  obtain rfl : inn = false := by have := HIN.out; have := HNO.out.1; cases inn <;> simp_all
  obtain rfl : lp = 0 := by have := HLP.out; rw [HNO.out.2] at this; simpa using this.symm
  obtain ⟨n, hn⟩ : ∃ n, ps.length = n := ⟨_, rfl⟩
  have HPL := Lib.hid hn
  have hn1 : 1 ≤ n := by
    have h1 : ps.length ≠ 0 := fun e => HZZ.out (List.eq_nil_of_length_eq_zero e)
    omega
  have hn2 : n ≤ 10000 := by omega
  rw [hn]
  clear hn hps
  have hnz : ((n : Int) == 0) = false := beq_eq_false_iff_ne.2 (by omega)
  have hnm : ¬ (2097152 : Int) < (n : Int) := by omega
  have hnd : decide ((2097152 : Int) < (n : Int)) = false := decide_eq_false hnm
  have hnl := nodesN_le (n := n) (b := b) HB.out.1
  obtain ⟨nn, hnn⟩ : ∃ x, nodesN n b = x := ⟨_, rfl⟩
  rw [hnn] at hnl
  obtain ⟨us, hus⟩ : ∃ x, s.ar.used = x := ⟨_, rfl⟩
  obtain ⟨mo, hmo⟩ : ∃ x, s.ar.most = x := ⟨_, rfl⟩
  have hub := HAT.out.ok.used
  have hbig := HAT.out.big
  rw [hus] at hub
  have hu1 : -60000 ≤ us := by omega
  have hu2 : us ≤ 60000 := by omega
  have HWR := Lib.hid (show IntKind.i64.wrap (us + (nn : Int)) = us + (nn : Int) by rw [IntKind.wrap_i64]; omega)
  have HU := Lib.hid (And.intro hnn (And.intro hus hmo))
  clear hub hbig hnn hus hmo
  go_upto_region 11 with fail
  have HZ := Lib.hid (HH.out.drew)
  clear HH z0 z2
  have HF : Hid (∀ z, (∃ l, Hid (Heap w0 z (l ++ (wdL c s ++ Z)))) → World.cell? z ⟨c.wb, 0, none⟩ = some (pt c.ab) ∧ World.cell? z ⟨c.wb, 4, none⟩ = some (.int .i64 (b : Int))) := Lib.hid (fun z ⟨l, hz⟩ => ⟨(wb_cells (q := areP c.ab s.ar) hz.out).1, by rw [← HB.out.2.2]; exact (wb_cells (q := areP c.ab s.ar) hz.out).2.1⟩)
  go_cut [74] from 51 to 74 (fun s74 wx => s74 = .bool (decide (mo < us + (nn : Int))) ∧ Hid (Heap w0 wx (wdL c s ++ Z)))
  case first =>
    refine wp_region_noPanic ?_
    refine AnyK.start (ks := []) (S := fun w' => ∃ l, Hid (Heap w0 w' (l ++ (wdL c s ++ Z)))) (by kernel_rfl) (by exact ⟨[], HZ⟩) (fun _ => ?_)
    refine AnyK.take (i := 0) (v := ?_) rfl (by kernel_rfl) (by kernel_rfl) (by kernel_rfl) (by kernel_rfl) (fun _ _ _ h => h) (Or.inl ⟨by kernel_rfl, ?_⟩) (by exact ⟨[], HZ⟩) ?_
    rotate_left
    focus
      intro w9 hSw
      have hSw := HF.out w9 hSw
      go_simp
      try with_reducible rfl
    try simp only [Act.put, List.getElem_toArray, List.getElem_cons_zero, List.getElem_cons_succ, List.setIfInBounds_toArray, List.set_cons_zero, List.set_cons_succ]
    refine AnyK.take (i := 1) (v := ?_) rfl (by kernel_rfl) (by kernel_rfl) (by kernel_rfl) (by kernel_rfl) (fun _ _ _ h => h) (Or.inl ⟨by kernel_rfl, ?_⟩) (by exact ⟨[], HZ⟩) ?_
    rotate_left
    focus
      intro w9 hSw
      have hSw := HF.out w9 hSw
      go_simp
      try with_reducible rfl
    try simp only [Act.put, List.getElem_toArray, List.getElem_cons_zero, List.getElem_cons_succ, List.setIfInBounds_toArray, List.set_cons_zero, List.set_cons_succ]
    refine AnyK.take (i := 2) (v := ?_) rfl (by kernel_rfl) (by kernel_rfl) (by kernel_rfl) (by kernel_rfl) (fun _ _ _ h => h) (Or.inl ⟨by kernel_rfl, ?_⟩) (by exact ⟨[], HZ⟩) ?_
    rotate_left
    focus
      intro w9 hSw
      have hSw := HF.out w9 hSw
      go_simp
      try with_reducible rfl
    try simp only [Act.put, List.getElem_toArray, List.getElem_cons_zero, List.getElem_cons_succ, List.setIfInBounds_toArray, List.set_cons_zero, List.set_cons_succ]
    refine AnyK.take (i := 3) (v := ?_) rfl (by kernel_rfl) (by kernel_rfl) (by kernel_rfl) (by kernel_rfl) (fun _ _ _ h => h) (Or.inl ⟨by kernel_rfl, ?_⟩) (by exact ⟨[], HZ⟩) ?_
    rotate_left
    focus
      intro w9 hSw
      have hSw := HF.out w9 hSw
      go_simp
      try with_reducible rfl
    try simp only [Act.put, List.getElem_toArray, List.getElem_cons_zero, List.getElem_cons_succ, List.setIfInBounds_toArray, List.set_cons_zero, List.set_cons_succ]
    refine AnyK.take (i := 4) (v := ?_) rfl (by kernel_rfl) (by kernel_rfl) (by kernel_rfl) (by kernel_rfl) (fun _ _ _ h => h) (Or.inl ⟨by kernel_rfl, ?_⟩) (by exact ⟨[], HZ⟩) ?_
    rotate_left
    focus
      intro w9 hSw
      have hSw := HF.out w9 hSw
      go_simp
      try with_reducible rfl
    try simp only [Act.put, List.getElem_toArray, List.getElem_cons_zero, List.getElem_cons_succ, List.setIfInBounds_toArray, List.set_cons_zero, List.set_cons_succ]
    refine AnyK.take (i := 5) (v := ?_) rfl (by kernel_rfl) (by kernel_rfl) (by kernel_rfl) (by kernel_rfl) (fun _ _ _ h => h) (Or.inl ⟨by kernel_rfl, ?_⟩) (by exact ⟨[], HZ⟩) ?_
    rotate_left
    focus
      intro w9 hSw
      have hSw := HF.out w9 hSw
      go_simp
      try with_reducible rfl
    try simp only [Act.put, List.getElem_toArray, List.getElem_cons_zero, List.getElem_cons_succ, List.setIfInBounds_toArray, List.set_cons_zero, List.set_cons_succ]
    refine AnyK.take (i := 6) (v := ?_) rfl (by kernel_rfl) (by kernel_rfl) (by kernel_rfl) (by kernel_rfl) (fun _ _ _ h => h) (Or.inl ⟨by kernel_rfl, ?_⟩) (by exact ⟨[], HZ⟩) ?_
    rotate_left
    focus
      intro w9 hSw
      have hSw := HF.out w9 hSw
      go_simp
      try with_reducible rfl
    try simp only [Act.put, List.getElem_toArray, List.getElem_cons_zero, List.getElem_cons_succ, List.setIfInBounds_toArray, List.set_cons_zero, List.set_cons_succ]
    refine AnyK.take (i := 7) (v := ?_) rfl (by kernel_rfl) (by kernel_rfl) (by kernel_rfl) (by kernel_rfl) (fun _ _ _ h => h) (Or.inl ⟨by kernel_rfl, ?_⟩) (by exact ⟨[], HZ⟩) ?_
    rotate_left
    focus
      intro w9 hSw
      have hSw := HF.out w9 hSw
      go_simp
      try with_reducible rfl
    try simp only [Act.put, List.getElem_toArray, List.getElem_cons_zero, List.getElem_cons_succ, List.setIfInBounds_toArray, List.set_cons_zero, List.set_cons_succ]
    refine AnyK.take (i := 9) (v := ?_) rfl (by kernel_rfl) (by kernel_rfl) (by kernel_rfl) (by kernel_rfl) (fun _ _ _ h => h) (Or.inl ⟨by kernel_rfl, ?_⟩) (by exact ⟨[], HZ⟩) ?_
    rotate_left
    focus
      intro w9 hSw
      have hSw := HF.out w9 hSw
      go_simp
      try with_reducible rfl
    try simp only [Act.put, List.getElem_toArray, List.getElem_cons_zero, List.getElem_cons_succ, List.setIfInBounds_toArray, List.set_cons_zero, List.set_cons_succ]
    refine AnyK.take (i := 10) (v := ?_) rfl (by kernel_rfl) (by kernel_rfl) (by kernel_rfl) (by kernel_rfl) (fun _ _ _ h => h) (Or.inl ⟨by kernel_rfl, ?_⟩) (by exact ⟨[], HZ⟩) ?_
    rotate_left
    focus
      intro w9 hSw
      have hSw := HF.out w9 hSw
      go_simp
      try with_reducible rfl
    try simp only [Act.put, List.getElem_toArray, List.getElem_cons_zero, List.getElem_cons_succ, List.setIfInBounds_toArray, List.set_cons_zero, List.set_cons_succ]
    refine AnyK.take (i := 11) (v := ?_) rfl (by kernel_rfl) (by kernel_rfl) (by kernel_rfl) (by kernel_rfl) (fun _ _ _ h => h) (Or.inl ⟨by kernel_rfl, ?_⟩) (by exact ⟨[], HZ⟩) ?_
    rotate_left
    focus
      intro w9 hSw
      have hSw := HF.out w9 hSw
      go_simp
      try with_reducible rfl
    try simp only [Act.put, List.getElem_toArray, List.getElem_cons_zero, List.getElem_cons_succ, List.setIfInBounds_toArray, List.set_cons_zero, List.set_cons_succ]
    refine AnyK.take (i := 12) (v := ?_) rfl (by kernel_rfl) (by kernel_rfl) (by kernel_rfl) (by kernel_rfl) (fun _ _ _ h => h) (Or.inl ⟨by kernel_rfl, ?_⟩) (by exact ⟨[], HZ⟩) ?_
    rotate_left
    focus
      intro w9 hSw
      have hSw := HF.out w9 hSw
      go_simp
      try with_reducible rfl
    try simp only [Act.put, List.getElem_toArray, List.getElem_cons_zero, List.getElem_cons_succ, List.setIfInBounds_toArray, List.set_cons_zero, List.set_cons_succ]
    refine AnyK.take (i := 13) (v := ?_) rfl (by kernel_rfl) (by kernel_rfl) (by kernel_rfl) (by kernel_rfl) (fun _ _ _ h => h) (Or.inl ⟨by kernel_rfl, ?_⟩) (by exact ⟨[], HZ⟩) ?_
    rotate_left
    focus
      intro w9 hSw
      have hSw := HF.out w9 hSw
      go_simp
      try with_reducible rfl
    try simp only [Act.put, List.getElem_toArray, List.getElem_cons_zero, List.getElem_cons_succ, List.setIfInBounds_toArray, List.set_cons_zero, List.set_cons_succ]
    refine AnyK.take (i := 14) (v := ?_) rfl (by kernel_rfl) (by kernel_rfl) (by kernel_rfl) (by kernel_rfl) (fun _ _ _ h => h) (Or.inl ⟨by kernel_rfl, ?_⟩) (by exact ⟨[], HZ⟩) ?_
    rotate_left
    focus
      intro w9 hSw
      have hSw := HF.out w9 hSw
      go_simp
      try with_reducible rfl
    try simp only [Act.put, List.getElem_toArray, List.getElem_cons_zero, List.getElem_cons_succ, List.setIfInBounds_toArray, List.set_cons_zero, List.set_cons_succ]
    refine AnyK.take (i := 17) (v := ?_) rfl (by kernel_rfl) (by kernel_rfl) (by kernel_rfl) (by kernel_rfl) (fun _ _ _ h => h) (Or.inl ⟨by kernel_rfl, ?_⟩) (by exact ⟨[], HZ⟩) ?_
    rotate_left
    focus
      intro w9 hSw
      have hSw := HF.out w9 hSw
      go_simp
      try with_reducible rfl
    try simp only [Act.put, List.getElem_toArray, List.getElem_cons_zero, List.getElem_cons_succ, List.setIfInBounds_toArray, List.set_cons_zero, List.set_cons_succ]
    refine AnyK.take (i := 18) (v := ?_) rfl (by kernel_rfl) (by kernel_rfl) (by kernel_rfl) (by kernel_rfl) (fun _ _ _ h => h) (Or.inl ⟨by kernel_rfl, ?_⟩) (by exact ⟨[], HZ⟩) ?_
    rotate_left
    focus
      intro w9 hSw
      have hSw := HF.out w9 hSw
      go_simp
      try with_reducible rfl
    try simp only [Act.put, List.getElem_toArray, List.getElem_cons_zero, List.getElem_cons_succ, List.setIfInBounds_toArray, List.set_cons_zero, List.set_cons_succ]
    refine AnyK.take (i := 19) (v := ?_) rfl (by kernel_rfl) (by kernel_rfl) (by kernel_rfl) (by kernel_rfl) (fun _ _ _ h => h) (Or.inl ⟨by kernel_rfl, ?_⟩) (by exact ⟨[], HZ⟩) ?_
    rotate_left
    focus
      intro w9 hSw
      have hSw := HF.out w9 hSw
      go_simp
      try with_reducible rfl
    try simp only [Act.put, List.getElem_toArray, List.getElem_cons_zero, List.getElem_cons_succ, List.setIfInBounds_toArray, List.set_cons_zero, List.set_cons_succ]
    refine AnyK.take (i := 20) (v := ?_) rfl (by kernel_rfl) (by kernel_rfl) (by kernel_rfl) (by kernel_rfl) (fun _ _ _ h => h) (Or.inl ⟨by kernel_rfl, ?_⟩) (by exact ⟨[], HZ⟩) ?_
    rotate_left
    focus
      intro w9 hSw
      have hSw := HF.out w9 hSw
      go_simp
      try with_reducible rfl
    try simp only [Act.put, List.getElem_toArray, List.getElem_cons_zero, List.getElem_cons_succ, List.setIfInBounds_toArray, List.set_cons_zero, List.set_cons_succ]
    refine AnyK.one (i := 8) (by kernel_rfl) rfl (fun K9 hK9 => ?_)
    go_simp
    refine (Used_h HZ.out 1 rfl).mono ?_
    rintro e w5 ⟨rfl, hw5⟩
    have H5 := Lib.hid HZ.out
    rw [← hw5] at H5
    clear hw5 HZ
    rw [HU.out.2.1]
    dsimp only
    refine hK9.out _ _ (fun _ => ⟨[], H5⟩) ?_
    clear hK9 K9
    try simp only [Act.put, List.getElem_toArray, List.getElem_cons_zero, List.getElem_cons_succ, List.setIfInBounds_toArray, List.set_cons_zero, List.set_cons_succ]
    refine AnyK.one (i := 15) (by kernel_rfl) rfl (fun K9 hK9 => ?_)
    go_simp
    refine (Nodes_h H5.out n b (by omega) ⟨HB.out.1, HB.out.2.1⟩).mono ?_
    rintro e w6 ⟨rfl, H9⟩
    rw [HU.out.1]
    have H6 := Lib.hid H9
    clear H9 H5
    dsimp only
    refine hK9.out _ _ (fun _ => ⟨[], H6⟩) ?_
    clear hK9 K9
    try simp only [Act.put, List.getElem_toArray, List.getElem_cons_zero, List.getElem_cons_succ, List.setIfInBounds_toArray, List.set_cons_zero, List.set_cons_succ]
    refine AnyK.take (i := 16) (v := ?_) rfl (by kernel_rfl) (by kernel_rfl) (by kernel_rfl) (by kernel_rfl) (fun _ _ _ h => h) (Or.inl ⟨by kernel_rfl, ?_⟩) (by exact ⟨[], H6⟩) ?_
    rotate_left
    focus
      intro w9 hSw
      have hSw := HF.out w9 hSw
      go_simp
      try with_reducible rfl
    try simp only [Act.put, List.getElem_toArray, List.getElem_cons_zero, List.getElem_cons_succ, List.setIfInBounds_toArray, List.set_cons_zero, List.set_cons_succ]
    refine AnyK.one (i := 21) (by kernel_rfl) rfl (fun K9 hK9 => ?_)
    go_simp
    refine (Most_h H6.out 1 rfl).mono ?_
    rintro e w7 ⟨rfl, hw7⟩
    have H7 := Lib.hid H6.out
    rw [← hw7] at H7
    clear hw7 H6
    rw [HU.out.2.2]
    dsimp only
    refine hK9.out _ _ (fun _ => ⟨[], H7⟩) ?_
    clear hK9 K9
    try simp only [Act.put, List.getElem_toArray, List.getElem_cons_zero, List.getElem_cons_succ, List.setIfInBounds_toArray, List.set_cons_zero, List.set_cons_succ]
    refine AnyK.take (i := 22) (v := ?_) rfl (by kernel_rfl) (by kernel_rfl) (by kernel_rfl) (by kernel_rfl) (fun _ _ _ h => h) (Or.inl ⟨by kernel_rfl, ?_⟩) (by exact ⟨[], H7⟩) ?_
    rotate_left
    focus
      intro w9 hSw
      have hSw := HF.out w9 hSw
      go_simp
      try with_reducible rfl
    try simp only [Act.put, List.getElem_toArray, List.getElem_cons_zero, List.getElem_cons_succ, List.setIfInBounds_toArray, List.set_cons_zero, List.set_cons_succ]
    refine AnyK.take (i := 23) (v := ?_) rfl (by kernel_rfl) (by kernel_rfl) (by kernel_rfl) (by kernel_rfl) (fun _ _ _ h => h) (Or.inl ⟨by kernel_rfl, ?_⟩) (by exact ⟨[], H7⟩) ?_
    rotate_left
    focus
      intro w9 hSw
      have hSw := HF.out w9 hSw
      go_simp
      try with_reducible rfl
    try simp only [Act.put, List.getElem_toArray, List.getElem_cons_zero, List.getElem_cons_succ, List.setIfInBounds_toArray, List.set_cons_zero, List.set_cons_succ]
    refine AnyK.done (by kernel_rfl) ?_ _
    refine NoPanic.normal ?_
    go_wp2_with fail
    go_meet
    exact ⟨by rw [HWR.out], H7⟩
  case rest =>
  obtain ⟨rfl, HH⟩ := hcut
  clear HF HZ hnl hnd
  rename World => w8
  have hd : decide (mo < us + (nn : Int)) = false := decide_eq_false (by
    have h := HM.out.1
    rw [HU.out.2.1, HU.out.2.2, HPL.out, HU.out.1] at h
    omega)
  have hm3 : us + (nn : Int) ≤ mo := by have := of_decide_eq_false hd; omega
  have HRM : Hid (Room s.ar nn) := Lib.hid (room_ld HAT.out HM.out.2.1 HM.out.2.2 (by rw [HU.out.2.1, HU.out.2.2]; exact hm3) (by have h := nodesN_le (n := n) (b := b) HB.out.1; rw [HU.out.1] at h; omega))
  have hk1 := partK_pos n b
  have hk2 : partK n b ≤ n := partK_le (by have := HB.out.1; omega) hn1
  have hknn : partK n b ≤ nn := by
    have h := HU.out.1
    unfold nodesN at h
    rw [if_neg (by omega)] at h
    omega
  have CP := Lib.hid (Parts_h HH.out n b ⟨hn1, by omega⟩ ⟨by have := HB.out.1; omega, HB.out.2.1⟩)
  obtain ⟨e0, e4, e5⟩ := wb_cells (l := []) (q := areP c.ab s.ar) HH.out
  rw [HB.out.2.2] at e4
  have HRD : Hid (∀ z q l, Heap w0 z (l ++ (wdQ c s q ++ Z)) → RdV z (.slice va (n - sumP n b 0) vc) (n - sumP n b 0) 2 (pairC (ps.drop (sumP n b 0)))) := Lib.hid (fun z q l hz => by
    have e : sumP n b 0 = 0 := rfl
    have h := HR.out z q l hz
    rw [HPL.out] at h
    rw [e]
    exact h)
  rw [hd]
  clear HH HR hd hm3 e0 e5
  obtain ⟨i0, hi0, hz0, hz1, hz2⟩ := info_parts info_ref
  have I0 := Lib.hid (And.intro hi0 (And.intro hz0 (And.intro hz1 hz2)))
  obtain ⟨j0, hj0, jz0, jz1, jz2⟩ := info_parts info_i64
  have J0 := Lib.hid (And.intro hj0 (And.intro jz0 (And.intro jz1 jz2)))
  clear hi0 hz0 hz1 hz2 hj0 jz0 jz1 jz2
  go_wp2_with fail
  refine CP.out.mono ?_
  rintro e w9 ⟨pa, pc, rfl, H2⟩
  clear CP e4
  have HH : Hid (Heap w0 w9 ([rowP 65 1 (.slice none 0 0) 0 (intC (refsN s.ar.slots.length 0)), rowP 2 1 (.slice none 0 0) 0 (intC (leafK n b 0 ps)), rowP 3 1 (.slice pa (partK n b) pc) (partK n b) (intsC (partsN n b))] ++ (wdL c (ldW s (leafN n b 0 ps)) ++ Z))) := Lib.hid (by
    have e : leafN n b 0 ps = [] := rfl
    rw [e, ldW_nil]
    exact ((H2.lastF.rowNilF 2 1).rowNilF 65 1))
  clear H2
  go_wp2_with fail
  go_loopw [1, 7, 8, 83] (fun s1 s7 s8 q wr => ∃ (i : Nat) (a1 : Option Addr) (c1 : Nat) (ao : Option Addr) (co : Nat) (ak : Option Addr) (ck : Nat), q = .int .i64 (i : Nat) ∧ i ≤ partK n b ∧ s1 = .slice a1 (n - sumP n b i) c1 ∧ s7 = .slice ao i co ∧ s8 = .slice ak i ck ∧ Hid (∀ z q l, Heap w0 z (l ++ (wdQ c s q ++ Z)) → RdV z (.slice a1 (n - sumP n b i) c1) (n - sumP n b i) 2 (pairC (ps.drop (sumP n b i)))) ∧ Hid (Heap w0 wr ([rowP 65 1 (.slice ao i co) i (intC (refsN s.ar.slots.length i)), rowP 2 1 (.slice ak i ck) i (intC (leafK n b i ps)), rowP 3 1 (.slice pa (partK n b) pc) (partK n b) (intsC (partsN n b))] ++ (wdL c (ldW s (leafN n b i ps)) ++ Z)))) (fun _ _ _ q _ => partK n b - (intOf q).toNat)
  case atStart =>
    have e : sumP n b 0 = 0 := rfl
    refine ⟨0, va, vc, none, 0, none, 0, rfl, Nat.zero_le _, ?_, rfl, rfl, HRD, HH⟩ <;> rw [e] <;> rfl
  case round =>
  clear HH HRD
  obtain ⟨i, a1, c1, ao, co, ak, ck, rfl, hi, rfl, rfl, rfl, HRD, HH⟩ := hrel
  by_cases hlt : i < partK n b
  · have HLT := Lib.hid hlt
    have hm1 := sumP_le n b (i + 1)
    rw [sumP_next hlt] at hm1
    have hp1 : 1 ≤ partAt n b i := partAt_pos (by omega) (by have := HB.out.1; omega)
    obtain ⟨m, hm⟩ : ∃ m, sumP n b i = m := ⟨_, rfl⟩
    obtain ⟨k, hk⟩ : ∃ k, partAt n b i = k := ⟨_, rfl⟩
    rw [hm, hk] at hm1
    rw [hk] at hp1
    obtain ⟨lm, hlm⟩ : ∃ x, n - m = x := ⟨_, rfl⟩
    obtain ⟨fk, hfk⟩ : ∃ x, ps[m]? = some x := ⟨_, List.getElem?_eq_getElem (by rw [HPL.out]; omega)⟩
    obtain ⟨gk1, gk2⟩ := getD_consP hfk
    have HRD2 := HRD.out
    rw [hm, hlm] at HRD2 ⊢
    clear HRD
    have QP := (HH.out.row 2 (t := 3) (sz := 1) (n := partK n b) (v := .slice pa (partK n b) pc) (us := intsC (partsN n b)) rfl).rdv
    obtain ⟨pa1, rfl, _, hatp⟩ := QP.at (by omega)
    have y1 : World.cell? _ (pa1.add i) = some (.int .i64 (k : Int)) := hatp i _ (by unfold intsC; rw [List.getElem?_map, partsN_get HLT.out, hk]; rfl)
    have r1 := HRD2 _ (areP c.ab (addAr s.ar (leafN n b i ps))) _ HH.out
    obtain ⟨g1, rfl, hc1, _⟩ := r1.at (by omega)
    have y2 : ∀ z q l, Heap w0 z (l ++ (wdQ c s q ++ Z)) → World.cell? z g1 = some (.int .i64 fk.1) ∧ World.cell? z ⟨c.wb, 0, none⟩ = some (pt c.ab) := fun z q l hz => by
      have r2 := HRD2 z q l hz
      obtain ⟨g3, e3, _, hat3⟩ := r2.at (by omega)
      have e3 : g1 = g3 := by simpa using e3
      subst e3
      exact ⟨by have := hat3 0 _ gk2; rwa [add_zero'] at this, (wb_cells hz).1⟩
    have y2 := Lib.hid y2
    obtain ⟨vw, hvw⟩ : ∃ v, Value.slice (some g1) k c1 = v := ⟨_, rfl⟩
    obtain ⟨vr, hvr⟩ : ∃ v, (if c1 = k then some g1 else some (g1.add (k * 2))) = v := ⟨_, rfl⟩
    have hkl : k ≤ lm := by omega
    have hkc1 : k ≤ c1 := by omega
    have hki : (1 : Int) ≤ (k : Int) := by omega
    have hl0 : (0 : Int) < (lm : Int) := by omega
    have hl0' : 0 < lm := by omega
    have hkli : (k : Int) ≤ (lm : Int) := by omega
    have HV : Hid (∀ z q l, Heap w0 z (l ++ (wdQ c s q ++ Z)) → RdV z vw k 2 (pairC ((ps.drop m).take k)) ∧ RdV z (.slice vr (lm - k) (c1 - k)) (lm - k) 2 (pairC (ps.drop (m + k)))) := Lib.hid (fun z q l hz => by
      have r1 := HRD2 z q l hz
      have t2 := RdV.takeN r1 hkl (c' := c1) hkc1
      have t3 := r1.sliced (lo := k) (hi := lm) hkl (Nat.le_refl _)
      rw [pairC_take] at t2
      rw [hvw] at t2
      rw [sliced_k2, hvr, List.take_of_length_le (by rw [r1.1]; exact Nat.le_refl _), pairC_drop, List.drop_drop] at t3
      exact ⟨t2, t3⟩)
    obtain ⟨x1, hx1⟩ : ∃ x, (ps.drop m).take k = x := ⟨_, rfl⟩
    have hl1 : x1.length = k := by rw [← hx1, List.length_take, List.length_drop, HPL.out]; omega
    rw [hx1] at HV
    have HUN := leafN_next HLT.out ps
    have HUK := leafK_next HLT.out ps
    rw [hm, hk, hx1] at HUN
    rw [hm, gk1] at HUK
    have HSN := sumP_next HLT.out
    rw [hm, hk] at HSN
    have hln2 : (leafN n b i ps).length = i := leafN_len hi ps
    have hln : (leafN n b i ps).length < nn := by omega
    have HMB := HRM.out.more (Nat.le_of_lt hln)
    have CA := fun (z : World) (l : List Piece) (hz : Heap w0 z (l ++ (wdL c (ldW s (leafN n b i ps)) ++ Z))) => Alloc_h (a := c.ab) (ar := addAr s.ar (leafN n b i ps)) (Heap.swapF hz) 1 rfl HMB ⟨false, false, x1, [], []⟩ ⟨by show x1.length ≤ _; omega, by simp, by simp⟩ vw nilS nilS (fun y q hy => by
      have hy2 : RdV y vw k 2 (pairC x1) := (HV.out y q l (Heap.swapF (B := wdQ c s q ++ Z) (C := l) hy)).1
      exact ⟨by show RdV y vw x1.length 2 _; rw [hl1]; exact hy2, RdV_nil y 1, RdV_nil y 1⟩)
    have CA := Lib.hid CA
    have HF : Hid (∀ z, (∃ l, Hid (Heap w0 z (l ++ (wdL c (ldW s (leafN n b i ps)) ++ Z)))) → World.cell? z ⟨c.wb, 0, none⟩ = some (pt c.ab)) := Lib.hid (fun z ⟨l, hz⟩ => (y2.out z (areP c.ab (addAr s.ar (leafN n b i ps))) l hz.out).2)
    have HF2 : Hid (∀ z, (∃ l, Hid (Heap w0 z (l ++ (wdL c (ldW s (leafN n b (i + 1) ps)) ++ Z)))) → World.cell? z g1 = some (.int .i64 fk.1)) := Lib.hid (fun z ⟨l, hz⟩ => (y2.out z (areP c.ab (addAr s.ar (leafN n b (i + 1) ps))) l hz.out).1)
    have HL := Lib.hid (show i + 1 ≤ maxLen ∧ (i + 1) * 8 ≤ 140737488355328 by unfold maxLen; omega)
    have HE := Lib.hid (And.intro hvw hvr)
    have HX := Lib.hid hx1
    have HM9 := Lib.hid (And.intro hm (And.intro hk (And.intro hlm hfk)))
    have HN := Lib.hid (And.intro HUN (And.intro HUK (And.intro HSN (And.intro hln hln2))))
    clear hvw hvr hx1 hm hk hlm hfk HUN HUK HSN hln hln2 y2 gk1 gk2 hatp QP r1 HRD2 hl1 HMB
    obtain ⟨fk1, hfk1⟩ : ∃ x, fk.1 = x := ⟨_, rfl⟩
    rw [hfk1] at HF2 HN
    clear hfk1
    go_upto_region 18 with fail
    have HZ := Lib.hid HH.out.drew
    clear HH y1
    refine wp_region_noPanic ?_
    refine AnyK.start (ks := [8, 9, 10, 11, 12, 13]) (S := fun w' => ∃ l, Hid (Heap w0 w' (l ++ (wdL c (ldW s (leafN n b i ps)) ++ Z)))) (by kernel_rfl) (by exact ⟨_, HZ⟩) (fun _ => ?_)
    refine AnyK.takeB (i := 0) (v := ?_) rfl (by kernel_rfl) (by kernel_rfl) (by kernel_rfl) (by kernel_rfl) (fun _ _ _ h => h) (Or.inl ⟨by kernel_rfl, ?_⟩) (by exact ⟨_, HZ⟩) ?_
    rotate_left
    focus
      intro w9 hSw
      have hSw := HF.out w9 hSw
      go_simp
      try with_reducible rfl
    try simp only [Act.put, List.getElem_toArray, List.getElem_cons_zero, List.getElem_cons_succ, List.setIfInBounds_toArray, List.set_cons_zero, List.set_cons_succ]
    refine AnyK.takeB (i := 1) (v := ?_) rfl (by kernel_rfl) (by kernel_rfl) (by kernel_rfl) (by kernel_rfl) (fun _ _ _ h => h) (Or.inl ⟨by kernel_rfl, ?_⟩) (by exact ⟨_, HZ⟩) ?_
    rotate_left
    focus
      intro w9 hSw
      have hSw := HF.out w9 hSw
      go_simp
      try with_reducible rfl
    try simp only [Act.put, List.getElem_toArray, List.getElem_cons_zero, List.getElem_cons_succ, List.setIfInBounds_toArray, List.set_cons_zero, List.set_cons_succ]
    refine AnyK.takeB (i := 2) (v := ?_) rfl (by kernel_rfl) (by kernel_rfl) (by kernel_rfl) (by kernel_rfl) (fun _ _ _ h => h) (Or.inl ⟨by kernel_rfl, ?_⟩) (by exact ⟨_, HZ⟩) ?_
    rotate_left
    focus
      intro w9 hSw
      have hSw := HF.out w9 hSw
      go_simp
      try with_reducible rfl
    try simp only [Act.put, List.getElem_toArray, List.getElem_cons_zero, List.getElem_cons_succ, List.setIfInBounds_toArray, List.set_cons_zero, List.set_cons_succ]
    refine AnyK.takeB (i := 3) (v := ?_) rfl (by kernel_rfl) (by kernel_rfl) (by kernel_rfl) (by kernel_rfl) (fun _ _ _ h => h) (Or.inl ⟨by kernel_rfl, ?_⟩) (by exact ⟨_, HZ⟩) ?_
    rotate_left
    focus
      intro w9 hSw
      have hSw := HF.out w9 hSw
      go_simp
      try with_reducible rfl
    try simp only [Act.put, List.getElem_toArray, List.getElem_cons_zero, List.getElem_cons_succ, List.setIfInBounds_toArray, List.set_cons_zero, List.set_cons_succ]
    refine AnyK.takeB (i := 4) (v := ?_) rfl (by kernel_rfl) (by kernel_rfl) (by kernel_rfl) (by kernel_rfl) (fun _ _ _ h => h) (Or.inl ⟨by kernel_rfl, ?_⟩) (by exact ⟨_, HZ⟩) ?_
    rotate_left
    focus
      intro w9 hSw
      have hSw := HF.out w9 hSw
      go_simp
      try with_reducible rfl
    try simp only [Act.put, List.getElem_toArray, List.getElem_cons_zero, List.getElem_cons_succ, List.setIfInBounds_toArray, List.set_cons_zero, List.set_cons_succ]
    refine AnyK.takeB (i := 5) (v := ?_) rfl (by kernel_rfl) (by kernel_rfl) (by kernel_rfl) (by kernel_rfl) (fun _ _ _ h => h) (Or.inl ⟨by kernel_rfl, ?_⟩) (by exact ⟨_, HZ⟩) ?_
    rotate_left
    focus
      intro w9 hSw
      have hSw := HF.out w9 hSw
      go_simp
      try with_reducible rfl
    try simp only [Act.put, List.getElem_toArray, List.getElem_cons_zero, List.getElem_cons_succ, List.setIfInBounds_toArray, List.set_cons_zero, List.set_cons_succ]
    refine AnyK.takeB (i := 6) (v := ?_) rfl (by kernel_rfl) (by kernel_rfl) (by kernel_rfl) (by kernel_rfl) (fun _ _ _ h => h) (Or.inl ⟨by kernel_rfl, ?_⟩) (by exact ⟨_, HZ⟩) ?_
    rotate_left
    focus
      intro w9 hSw
      have hSw := HF.out w9 hSw
      go_simp
      try with_reducible rfl
    try simp only [Act.put, List.getElem_toArray, List.getElem_cons_zero, List.getElem_cons_succ, List.setIfInBounds_toArray, List.set_cons_zero, List.set_cons_succ]
    refine AnyK.takeB (i := 7) (v := ?_) rfl (by kernel_rfl) (by kernel_rfl) (by kernel_rfl) (by kernel_rfl) (fun _ _ _ h => h) (Or.inl ⟨by kernel_rfl, ?_⟩) (by exact ⟨_, HZ⟩) ?_
    rotate_left
    focus
      intro w9 hSw
      have hSw := HF.out w9 hSw
      go_simp
      try with_reducible rfl
    try simp only [Act.put, List.getElem_toArray, List.getElem_cons_zero, List.getElem_cons_succ, List.setIfInBounds_toArray, List.set_cons_zero, List.set_cons_succ]
    rw [HE.out.1]
    refine AnyK.one (i := 8) (by kernel_rfl) rfl (fun K9 hK9 => ?_)
    go_simp
    refine (CA.out _ _ HZ.out).mono ?_
    rintro e w5 ⟨rfl, H9⟩
    rw [HRM.out.alloc _ HN.out.2.2.2.1]
    rw [HRM.out.alloc _ HN.out.2.2.2.1, ← HN.out.1] at H9
    have H9 := Heap.swapF (B := wdL c (ldW s (leafN n b (i + 1) ps)) ++ Z) H9
    rw [HN.out.2.2.2.2]
    obtain ⟨rv, hrv⟩ : ∃ r, refOf ((s.ar.slots.length + i : Nat) : Int) 1 = r := ⟨_, rfl⟩
    rw [hrv]
    have HRV := Lib.hid hrv
    have HH6 := Lib.hid H9
    clear H9 hrv
    dsimp only
    refine hK9.out _ _ (fun h => absurd (by decide) h) ?_
    clear hK9 K9
    try simp only [Act.put, List.getElem_toArray, List.getElem_cons_zero, List.getElem_cons_succ, List.setIfInBounds_toArray, List.set_cons_zero, List.set_cons_succ]
    refine AnyK.phase (S' := fun _ => True) (ks' := []) (by kernel_rfl) ?_
    refine AnyK.take (i := 9) (v := ?_) rfl (by kernel_rfl) (by kernel_rfl) (by kernel_rfl) (by kernel_rfl) (fun _ _ _ h => h) (Or.inl ⟨by rfl, ?_⟩) (by exact trivial) ?_
    rotate_left
    focus
      intro w9 hSw
      try dsimp only at hSw
      go_simp
      try with_reducible rfl
    try simp only [Act.put, List.getElem_toArray, List.getElem_cons_zero, List.getElem_cons_succ, List.setIfInBounds_toArray, List.set_cons_zero, List.set_cons_succ]
    refine AnyK.take (i := 10) (v := ?_) rfl (by kernel_rfl) (by kernel_rfl) (by kernel_rfl) (by kernel_rfl) (fun _ _ _ h => h) (Or.inl ⟨by rfl, ?_⟩) (by exact trivial) ?_
    rotate_left
    focus
      intro w9 hSw
      try dsimp only at hSw
      go_simp
      try with_reducible rfl
    try simp only [Act.put, List.getElem_toArray, List.getElem_cons_zero, List.getElem_cons_succ, List.setIfInBounds_toArray, List.set_cons_zero, List.set_cons_succ]
    refine AnyK.take (i := 11) (v := ?_) rfl (by kernel_rfl) (by kernel_rfl) (by kernel_rfl) (by kernel_rfl) (fun _ _ _ h => h) (Or.inl ⟨by rfl, ?_⟩) (by exact trivial) ?_
    rotate_left
    focus
      intro w9 hSw
      try dsimp only at hSw
      go_simp
      try with_reducible rfl
    try simp only [Act.put, List.getElem_toArray, List.getElem_cons_zero, List.getElem_cons_succ, List.setIfInBounds_toArray, List.set_cons_zero, List.set_cons_succ]
    refine AnyK.take (i := 12) (v := ?_) rfl (by kernel_rfl) (by kernel_rfl) (by kernel_rfl) (by kernel_rfl) (fun _ _ _ h => h) (Or.inl ⟨by rfl, ?_⟩) (by exact trivial) ?_
    rotate_left
    focus
      intro w9 hSw
      try dsimp only at hSw
      go_simp
      try with_reducible rfl
    try simp only [Act.put, List.getElem_toArray, List.getElem_cons_zero, List.getElem_cons_succ, List.setIfInBounds_toArray, List.set_cons_zero, List.set_cons_succ]
    refine AnyK.take (i := 13) (v := ?_) rfl (by kernel_rfl) (by kernel_rfl) (by kernel_rfl) (by kernel_rfl) (fun _ _ _ h => h) (Or.inl ⟨by rfl, ?_⟩) (by exact trivial) ?_
    rotate_left
    focus
      intro w9 hSw
      try dsimp only at hSw
      go_simp
      try with_reducible rfl
    try simp only [Act.put, List.getElem_toArray, List.getElem_cons_zero, List.getElem_cons_succ, List.setIfInBounds_toArray, List.set_cons_zero, List.set_cons_succ]
    clear HZ CA HF
    refine AnyK.done (by kernel_rfl) ?_ _
    refine NoPanic.normal ?_
    go_upto_region 19 with fail
    go_cut [7, 8] from 99 to 109 (fun s7 s8 wx => ∃ (ao : Option Addr) (co : Nat) (ak : Option Addr) (ck : Nat), s7 = .slice ao (i + 1) co ∧ s8 = .slice ak (i + 1) ck ∧ Hid (Heap w0 wx ([rowP 65 1 (.slice ao (i + 1) co) (i + 1) (intC (refsN s.ar.slots.length (i + 1))), rowP 2 1 (.slice ak (i + 1) ck) (i + 1) (intC (leafK n b (i + 1) ps)), rowP 3 1 (.slice (some pa1) (partK n b) pc) (partK n b) (intsC (partsN n b))] ++ (wdL c (ldW s (leafN n b (i + 1) ps)) ++ Z))))
    case first =>
      have HZ := Lib.hid HH6.out.drew
      clear HH6
      refine wp_region_noPanic ?_
      refine AnyK.start (ks := [11, 12]) (S := fun w' => ∃ l, Hid (Heap w0 w' (l ++ (wdL c (ldW s (leafN n b (i + 1) ps)) ++ Z)))) (by kernel_rfl) (by exact ⟨_, HZ⟩) (fun _ => ?_)
      refine AnyK.takeB (i := 0) (v := ?_) rfl (by kernel_rfl) (by kernel_rfl) (by kernel_rfl) (by kernel_rfl) (fun _ _ _ h => h) (Or.inl ⟨by kernel_rfl, ?_⟩) (by exact ⟨_, HZ⟩) ?_
      rotate_left
      focus
        intro w9 hSw
        have hSw := HF2.out w9 hSw
        go_simp
        try with_reducible rfl
      try simp only [Act.put, List.getElem_toArray, List.getElem_cons_zero, List.getElem_cons_succ, List.setIfInBounds_toArray, List.set_cons_zero, List.set_cons_succ]
      refine AnyK.takeB (i := 1) (v := ?_) rfl (by kernel_rfl) (by kernel_rfl) (by kernel_rfl) (by kernel_rfl) (fun _ _ _ h => h) (Or.inl ⟨by kernel_rfl, ?_⟩) (by exact ⟨_, HZ⟩) ?_
      rotate_left
      focus
        intro w9 hSw
        have hSw := HF2.out w9 hSw
        go_simp
        try with_reducible rfl
      try simp only [Act.put, List.getElem_toArray, List.getElem_cons_zero, List.getElem_cons_succ, List.setIfInBounds_toArray, List.set_cons_zero, List.set_cons_succ]
      refine AnyK.takeB (i := 4) (v := ?_) rfl (by kernel_rfl) (by kernel_rfl) (by kernel_rfl) (by kernel_rfl) (fun _ _ _ h => h) (Or.inl ⟨by kernel_rfl, ?_⟩) (by exact ⟨_, HZ⟩) ?_
      rotate_left
      focus
        intro w9 hSw
        have hSw := HF2.out w9 hSw
        go_simp
        try with_reducible rfl
      try simp only [Act.put, List.getElem_toArray, List.getElem_cons_zero, List.getElem_cons_succ, List.setIfInBounds_toArray, List.set_cons_zero, List.set_cons_succ]
      refine AnyK.takeB (i := 5) (v := ?_) rfl (by kernel_rfl) (by kernel_rfl) (by kernel_rfl) (by kernel_rfl) (fun _ _ _ h => h) (Or.inl ⟨by kernel_rfl, ?_⟩) (by exact ⟨_, HZ⟩) ?_
      rotate_left
      focus
        intro w9 hSw
        have hSw := HF2.out w9 hSw
        go_simp
        try with_reducible rfl
      try simp only [Act.put, List.getElem_toArray, List.getElem_cons_zero, List.getElem_cons_succ, List.setIfInBounds_toArray, List.set_cons_zero, List.set_cons_succ]
      refine AnyK.takeB (i := 6) (v := ?_) rfl (by kernel_rfl) (by kernel_rfl) (by kernel_rfl) (by kernel_rfl) (fun _ _ _ h => h) (Or.inl ⟨by kernel_rfl, ?_⟩) (by exact ⟨_, HZ⟩) ?_
      rotate_left
      focus
        intro w9 hSw
        have hSw := HF2.out w9 hSw
        go_simp
        try with_reducible rfl
      try simp only [Act.put, List.getElem_toArray, List.getElem_cons_zero, List.getElem_cons_succ, List.setIfInBounds_toArray, List.set_cons_zero, List.set_cons_succ]
      refine AnyK.takeB (i := 7) (v := ?_) rfl (by kernel_rfl) (by kernel_rfl) (by kernel_rfl) (by kernel_rfl) (fun _ _ _ h => h) (Or.inl ⟨by kernel_rfl, ?_⟩) (by exact ⟨_, HZ⟩) ?_
      rotate_left
      focus
        intro w9 hSw
        have hSw := HF2.out w9 hSw
        go_simp
        try with_reducible rfl
      try simp only [Act.put, List.getElem_toArray, List.getElem_cons_zero, List.getElem_cons_succ, List.setIfInBounds_toArray, List.set_cons_zero, List.set_cons_succ]
      refine AnyK.takeB (i := 8) (v := ?_) rfl (by kernel_rfl) (by kernel_rfl) (by kernel_rfl) (by kernel_rfl) (fun _ _ _ h => h) (Or.inl ⟨by kernel_rfl, ?_⟩) (by exact ⟨_, HZ⟩) ?_
      rotate_left
      focus
        intro w9 hSw
        have hSw := HF2.out w9 hSw
        go_simp
        try with_reducible rfl
      try simp only [Act.put, List.getElem_toArray, List.getElem_cons_zero, List.getElem_cons_succ, List.setIfInBounds_toArray, List.set_cons_zero, List.set_cons_succ]
      clear hc1
      refine name_w (fun z0 hz0 => ?_)
      rw [hz0] at HZ
      clear hz0
      refine AnyK.two (i := 2) (j := 9) (by kernel_rfl) rfl rfl (fun K9 hK9 => ?_) (fun K9 hK9 => ?_)
      · go_simp
        have H9 := HZ.out.allocF 65 #[.int .i64 rv]
        generalize z0.heap.size = bo at H9 hK9 ⊢
        generalize z0.alloc (.cells #[.int .i64 rv] 65) = x2 at H9 hK9 ⊢
        have H9 : Heap w0 x2 ([blkP bo 65 #[.int .i64 rv], rowP 65 1 (.slice ao i co) i (intC (refsN s.ar.slots.length i)), rowP 2 1 (.slice ak i ck) i (intC (leafK n b i ps)), rowP 3 1 (.slice (some pa1) (partK n b) pc) (partK n b) (intsC (partsN n b))] ++ (wdL c (ldW s (leafN n b (i + 1) ps)) ++ Z)) := H9
        have AHH1 := Lib.hid H9
        clear H9 HZ
        refine hK9.out _ _ (fun _ => ⟨_, AHH1⟩) ?_
        clear hK9 K9
        try simp only [Act.put, List.getElem_toArray, List.getElem_cons_zero, List.getElem_cons_succ, List.setIfInBounds_toArray, List.set_cons_zero, List.set_cons_succ]
        refine AnyK.two (i := 3) (j := 9) (by kernel_rfl) rfl rfl (fun K9 hK9 => ?_) (fun K9 hK9 => ?_)
        · refine step_append_typed _ (by rfl) (.tmp 99) (.tmp 101) 108 (by rfl) 65 i0 (.int .i64 0) 1 8 Try.underlying108 I0.out.1 I0.out.2.1 I0.out.2.2.1 I0.out.2.2.2 rfl (by decide) (.slice ao i co) i (intC (refsN s.ar.slots.length i)) (by simp [Act.eval]) (AHH1.out.row 1 rfl) (.slice (some ⟨bo, 0, none⟩) 1 1) 1 [.int .i64 rv] (by simp [Act.eval]) (RdV.block (cs := #[.int .i64 rv]) (t := 65) (AHH1.out.blk 0 rfl) rfl (by decide)) (by simp [Value.oneCell']) HL.out.1 HL.out.2 ?_
          intro a3 c3 w3 q3 grow3 hat3
          have H9 := AHH1.out.growRow 1 rfl (Fr.refl _ _) q3 grow3 (fun g hg => (hat3 g hg).resolve_left (fun h => absurd h.1 (by decide)))
          clear q3 grow3 hat3
          have H9 : Heap w0 w3 ([blkP bo 65 #[.int .i64 rv], rowP 65 1 (.slice a3 (i + 1) c3) (i + 1) (intC (refsN s.ar.slots.length i) ++ [.int .i64 rv]), rowP 2 1 (.slice ak i ck) i (intC (leafK n b i ps)), rowP 3 1 (.slice (some pa1) (partK n b) pc) (partK n b) (intsC (partsN n b))] ++ (wdL c (ldW s (leafN n b (i + 1) ps)) ++ Z)) := H9
          have BHH2 := Lib.hid H9
          clear H9 AHH1
          refine hK9.out _ _ (fun _ => ⟨_, BHH2⟩) ?_
          clear hK9 K9
          try simp only [Act.put, List.getElem_toArray, List.getElem_cons_zero, List.getElem_cons_succ, List.setIfInBounds_toArray, List.set_cons_zero, List.set_cons_succ]
          refine AnyK.one (i := 9) (by kernel_rfl) rfl (fun K9 hK9 => ?_)
          go_simp
          have H9 := BHH2.out.allocF 2 #[.int .i64 fk1]
          generalize w3.heap.size = bk at H9 hK9 ⊢
          generalize w3.alloc (.cells #[.int .i64 fk1] 2) = x9 at H9 hK9 ⊢
          have H9 : Heap w0 x9 ([blkP bk 2 #[.int .i64 fk1], blkP bo 65 #[.int .i64 rv], rowP 65 1 (.slice a3 (i + 1) c3) (i + 1) (intC (refsN s.ar.slots.length i) ++ [.int .i64 rv]), rowP 2 1 (.slice ak i ck) i (intC (leafK n b i ps)), rowP 3 1 (.slice (some pa1) (partK n b) pc) (partK n b) (intsC (partsN n b))] ++ (wdL c (ldW s (leafN n b (i + 1) ps)) ++ Z)) := H9
          have BHH3 := Lib.hid H9
          clear H9 BHH2
          refine hK9.out _ _ (fun _ => ⟨_, BHH3⟩) ?_
          clear hK9 K9
          try simp only [Act.put, List.getElem_toArray, List.getElem_cons_zero, List.getElem_cons_succ, List.setIfInBounds_toArray, List.set_cons_zero, List.set_cons_succ]
          refine AnyK.one (i := 10) (by kernel_rfl) rfl (fun K9 hK9 => ?_)
          refine step_append_typed _ (by rfl) (.tmp 103) (.tmp 108) 22 (by rfl) 2 j0 (.int .i64 0) 1 8 Try.underlying22 J0.out.1 J0.out.2.1 J0.out.2.2.1 J0.out.2.2.2 rfl (by decide) (.slice ak i ck) i (intC (leafK n b i ps)) (by simp [Act.eval]) (BHH3.out.row 3 rfl) (.slice (some ⟨bk, 0, none⟩) 1 1) 1 [.int .i64 fk1] (by simp [Act.eval]) (RdV.block (cs := #[.int .i64 fk1]) (t := 2) (BHH3.out.blk 0 rfl) rfl (by decide)) (by simp [Value.oneCell']) HL.out.1 HL.out.2 ?_
          intro a9 c9 w9 q9 grow9 hat9
          have H9 := BHH3.out.growRow 3 rfl (Fr.refl _ _) q9 grow9 (fun g hg => (hat9 g hg).resolve_left (fun h => absurd h.1 (by decide)))
          clear q9 grow9 hat9
          have H9 : Heap w0 w9 ([blkP bk 2 #[.int .i64 fk1], blkP bo 65 #[.int .i64 rv], rowP 65 1 (.slice a3 (i + 1) c3) (i + 1) (intC (refsN s.ar.slots.length i) ++ [.int .i64 rv]), rowP 2 1 (.slice a9 (i + 1) c9) (i + 1) (intC (leafK n b i ps) ++ [.int .i64 fk1]), rowP 3 1 (.slice (some pa1) (partK n b) pc) (partK n b) (intsC (partsN n b))] ++ (wdL c (ldW s (leafN n b (i + 1) ps)) ++ Z)) := H9
          have BHH4 := Lib.hid H9
          clear H9 BHH3
          refine hK9.out _ _ (fun _ => ⟨_, BHH4⟩) ?_
          clear hK9 K9
          try simp only [Act.put, List.getElem_toArray, List.getElem_cons_zero, List.getElem_cons_succ, List.setIfInBounds_toArray, List.set_cons_zero, List.set_cons_succ]
          refine AnyK.phase (S' := fun _ => True) (ks' := []) (by kernel_rfl) ?_
          refine AnyK.take (i := 11) (v := ?_) rfl (by kernel_rfl) (by kernel_rfl) (by kernel_rfl) (by kernel_rfl) (fun _ _ _ h => h) (Or.inl ⟨by rfl, ?_⟩) (by exact trivial) ?_
          rotate_left
          focus
            intro w9 hSw
            try dsimp only at hSw
            go_simp
            try with_reducible rfl
          try simp only [Act.put, List.getElem_toArray, List.getElem_cons_zero, List.getElem_cons_succ, List.setIfInBounds_toArray, List.set_cons_zero, List.set_cons_succ]
          refine AnyK.take (i := 12) (v := ?_) rfl (by kernel_rfl) (by kernel_rfl) (by kernel_rfl) (by kernel_rfl) (fun _ _ _ h => h) (Or.inl ⟨by rfl, ?_⟩) (by exact trivial) ?_
          rotate_left
          focus
            intro w9 hSw
            try dsimp only at hSw
            go_simp
            try with_reducible rfl
          try simp only [Act.put, List.getElem_toArray, List.getElem_cons_zero, List.getElem_cons_succ, List.setIfInBounds_toArray, List.set_cons_zero, List.set_cons_succ]
          have H9 := BHH4.out
          have H9 := H9.tailP.tailP
          refine AnyK.done (by kernel_rfl) ?_ _
          refine NoPanic.normal ?_
          have HX : Hid (Heap w0 _ ([rowP 65 1 (.slice a3 (i + 1) c3) (i + 1) (intC (refsN s.ar.slots.length (i + 1))), rowP 2 1 (.slice a9 (i + 1) c9) (i + 1) (intC (leafK n b (i + 1) ps)), rowP 3 1 (.slice (some pa1) (partK n b) pc) (partK n b) (intsC (partsN n b))] ++ (wdL c (ldW s (leafN n b (i + 1) ps)) ++ Z))) := Lib.hid (by
            rw [refsN_snoc, HRV.out, HN.out.2.1, intC_snoc, intC_snoc]
            exact H9)
          clear H9 BHH4
          go_wp2_with fail
          go_meet
          exact ⟨a3, c3, a9, c9, rfl, rfl, HX⟩
        · go_simp
          have H9 := AHH1.out.allocF 2 #[.int .i64 fk1]
          generalize x2.heap.size = bk at H9 hK9 ⊢
          generalize x2.alloc (.cells #[.int .i64 fk1] 2) = x9 at H9 hK9 ⊢
          have H9 : Heap w0 x9 ([blkP bk 2 #[.int .i64 fk1], blkP bo 65 #[.int .i64 rv], rowP 65 1 (.slice ao i co) i (intC (refsN s.ar.slots.length i)), rowP 2 1 (.slice ak i ck) i (intC (leafK n b i ps)), rowP 3 1 (.slice (some pa1) (partK n b) pc) (partK n b) (intsC (partsN n b))] ++ (wdL c (ldW s (leafN n b (i + 1) ps)) ++ Z)) := H9
          have CHH2 := Lib.hid H9
          clear H9 AHH1
          refine hK9.out _ _ (fun _ => ⟨_, CHH2⟩) ?_
          clear hK9 K9
          try simp only [Act.put, List.getElem_toArray, List.getElem_cons_zero, List.getElem_cons_succ, List.setIfInBounds_toArray, List.set_cons_zero, List.set_cons_succ]
          refine AnyK.one (i := 3) (by kernel_rfl) rfl (fun K9 hK9 => ?_)
          refine step_append_typed _ (by rfl) (.tmp 99) (.tmp 101) 108 (by rfl) 65 i0 (.int .i64 0) 1 8 Try.underlying108 I0.out.1 I0.out.2.1 I0.out.2.2.1 I0.out.2.2.2 rfl (by decide) (.slice ao i co) i (intC (refsN s.ar.slots.length i)) (by simp [Act.eval]) (CHH2.out.row 2 rfl) (.slice (some ⟨bo, 0, none⟩) 1 1) 1 [.int .i64 rv] (by simp [Act.eval]) (RdV.block (cs := #[.int .i64 rv]) (t := 65) (CHH2.out.blk 1 rfl) rfl (by decide)) (by simp [Value.oneCell']) HL.out.1 HL.out.2 ?_
          intro a3 c3 w3 q3 grow3 hat3
          have H9 := CHH2.out.growRow 2 rfl (Fr.refl _ _) q3 grow3 (fun g hg => (hat3 g hg).resolve_left (fun h => absurd h.1 (by decide)))
          clear q3 grow3 hat3
          have H9 : Heap w0 w3 ([blkP bk 2 #[.int .i64 fk1], blkP bo 65 #[.int .i64 rv], rowP 65 1 (.slice a3 (i + 1) c3) (i + 1) (intC (refsN s.ar.slots.length i) ++ [.int .i64 rv]), rowP 2 1 (.slice ak i ck) i (intC (leafK n b i ps)), rowP 3 1 (.slice (some pa1) (partK n b) pc) (partK n b) (intsC (partsN n b))] ++ (wdL c (ldW s (leafN n b (i + 1) ps)) ++ Z)) := H9
          have CHH3 := Lib.hid H9
          clear H9 CHH2
          refine hK9.out _ _ (fun _ => ⟨_, CHH3⟩) ?_
          clear hK9 K9
          try simp only [Act.put, List.getElem_toArray, List.getElem_cons_zero, List.getElem_cons_succ, List.setIfInBounds_toArray, List.set_cons_zero, List.set_cons_succ]
          refine AnyK.one (i := 10) (by kernel_rfl) rfl (fun K9 hK9 => ?_)
          refine step_append_typed _ (by rfl) (.tmp 103) (.tmp 108) 22 (by rfl) 2 j0 (.int .i64 0) 1 8 Try.underlying22 J0.out.1 J0.out.2.1 J0.out.2.2.1 J0.out.2.2.2 rfl (by decide) (.slice ak i ck) i (intC (leafK n b i ps)) (by simp [Act.eval]) (CHH3.out.row 3 rfl) (.slice (some ⟨bk, 0, none⟩) 1 1) 1 [.int .i64 fk1] (by simp [Act.eval]) (RdV.block (cs := #[.int .i64 fk1]) (t := 2) (CHH3.out.blk 0 rfl) rfl (by decide)) (by simp [Value.oneCell']) HL.out.1 HL.out.2 ?_
          intro a9 c9 w9 q9 grow9 hat9
          have H9 := CHH3.out.growRow 3 rfl (Fr.refl _ _) q9 grow9 (fun g hg => (hat9 g hg).resolve_left (fun h => absurd h.1 (by decide)))
          clear q9 grow9 hat9
          have H9 : Heap w0 w9 ([blkP bk 2 #[.int .i64 fk1], blkP bo 65 #[.int .i64 rv], rowP 65 1 (.slice a3 (i + 1) c3) (i + 1) (intC (refsN s.ar.slots.length i) ++ [.int .i64 rv]), rowP 2 1 (.slice a9 (i + 1) c9) (i + 1) (intC (leafK n b i ps) ++ [.int .i64 fk1]), rowP 3 1 (.slice (some pa1) (partK n b) pc) (partK n b) (intsC (partsN n b))] ++ (wdL c (ldW s (leafN n b (i + 1) ps)) ++ Z)) := H9
          have CHH4 := Lib.hid H9
          clear H9 CHH3
          refine hK9.out _ _ (fun _ => ⟨_, CHH4⟩) ?_
          clear hK9 K9
          try simp only [Act.put, List.getElem_toArray, List.getElem_cons_zero, List.getElem_cons_succ, List.setIfInBounds_toArray, List.set_cons_zero, List.set_cons_succ]
          refine AnyK.phase (S' := fun _ => True) (ks' := []) (by kernel_rfl) ?_
          refine AnyK.take (i := 11) (v := ?_) rfl (by kernel_rfl) (by kernel_rfl) (by kernel_rfl) (by kernel_rfl) (fun _ _ _ h => h) (Or.inl ⟨by rfl, ?_⟩) (by exact trivial) ?_
          rotate_left
          focus
            intro w9 hSw
            try dsimp only at hSw
            go_simp
            try with_reducible rfl
          try simp only [Act.put, List.getElem_toArray, List.getElem_cons_zero, List.getElem_cons_succ, List.setIfInBounds_toArray, List.set_cons_zero, List.set_cons_succ]
          refine AnyK.take (i := 12) (v := ?_) rfl (by kernel_rfl) (by kernel_rfl) (by kernel_rfl) (by kernel_rfl) (fun _ _ _ h => h) (Or.inl ⟨by rfl, ?_⟩) (by exact trivial) ?_
          rotate_left
          focus
            intro w9 hSw
            try dsimp only at hSw
            go_simp
            try with_reducible rfl
          try simp only [Act.put, List.getElem_toArray, List.getElem_cons_zero, List.getElem_cons_succ, List.setIfInBounds_toArray, List.set_cons_zero, List.set_cons_succ]
          have H9 := CHH4.out
          have H9 := H9.tailP.tailP
          refine AnyK.done (by kernel_rfl) ?_ _
          refine NoPanic.normal ?_
          have HX : Hid (Heap w0 _ ([rowP 65 1 (.slice a3 (i + 1) c3) (i + 1) (intC (refsN s.ar.slots.length (i + 1))), rowP 2 1 (.slice a9 (i + 1) c9) (i + 1) (intC (leafK n b (i + 1) ps)), rowP 3 1 (.slice (some pa1) (partK n b) pc) (partK n b) (intsC (partsN n b))] ++ (wdL c (ldW s (leafN n b (i + 1) ps)) ++ Z))) := Lib.hid (by
            rw [refsN_snoc, HRV.out, HN.out.2.1, intC_snoc, intC_snoc]
            exact H9)
          clear H9 CHH4
          go_wp2_with fail
          go_meet
          exact ⟨a3, c3, a9, c9, rfl, rfl, HX⟩
      · go_simp
        have H9 := HZ.out.allocF 2 #[.int .i64 fk1]
        generalize z0.heap.size = bk at H9 hK9 ⊢
        generalize z0.alloc (.cells #[.int .i64 fk1] 2) = x9 at H9 hK9 ⊢
        have H9 : Heap w0 x9 ([blkP bk 2 #[.int .i64 fk1], rowP 65 1 (.slice ao i co) i (intC (refsN s.ar.slots.length i)), rowP 2 1 (.slice ak i ck) i (intC (leafK n b i ps)), rowP 3 1 (.slice (some pa1) (partK n b) pc) (partK n b) (intsC (partsN n b))] ++ (wdL c (ldW s (leafN n b (i + 1) ps)) ++ Z)) := H9
        have DHH1 := Lib.hid H9
        clear H9 HZ
        refine hK9.out _ _ (fun _ => ⟨_, DHH1⟩) ?_
        clear hK9 K9
        try simp only [Act.put, List.getElem_toArray, List.getElem_cons_zero, List.getElem_cons_succ, List.setIfInBounds_toArray, List.set_cons_zero, List.set_cons_succ]
        refine AnyK.one (i := 2) (by kernel_rfl) rfl (fun K9 hK9 => ?_)
        go_simp
        have H9 := DHH1.out.allocF 65 #[.int .i64 rv]
        generalize x9.heap.size = bo at H9 hK9 ⊢
        generalize x9.alloc (.cells #[.int .i64 rv] 65) = x2 at H9 hK9 ⊢
        have H9 : Heap w0 x2 ([blkP bo 65 #[.int .i64 rv], blkP bk 2 #[.int .i64 fk1], rowP 65 1 (.slice ao i co) i (intC (refsN s.ar.slots.length i)), rowP 2 1 (.slice ak i ck) i (intC (leafK n b i ps)), rowP 3 1 (.slice (some pa1) (partK n b) pc) (partK n b) (intsC (partsN n b))] ++ (wdL c (ldW s (leafN n b (i + 1) ps)) ++ Z)) := H9
        have DHH2 := Lib.hid H9
        clear H9 DHH1
        refine hK9.out _ _ (fun _ => ⟨_, DHH2⟩) ?_
        clear hK9 K9
        try simp only [Act.put, List.getElem_toArray, List.getElem_cons_zero, List.getElem_cons_succ, List.setIfInBounds_toArray, List.set_cons_zero, List.set_cons_succ]
        refine AnyK.one (i := 3) (by kernel_rfl) rfl (fun K9 hK9 => ?_)
        refine step_append_typed _ (by rfl) (.tmp 99) (.tmp 101) 108 (by rfl) 65 i0 (.int .i64 0) 1 8 Try.underlying108 I0.out.1 I0.out.2.1 I0.out.2.2.1 I0.out.2.2.2 rfl (by decide) (.slice ao i co) i (intC (refsN s.ar.slots.length i)) (by simp [Act.eval]) (DHH2.out.row 2 rfl) (.slice (some ⟨bo, 0, none⟩) 1 1) 1 [.int .i64 rv] (by simp [Act.eval]) (RdV.block (cs := #[.int .i64 rv]) (t := 65) (DHH2.out.blk 0 rfl) rfl (by decide)) (by simp [Value.oneCell']) HL.out.1 HL.out.2 ?_
        intro a3 c3 w3 q3 grow3 hat3
        have H9 := DHH2.out.growRow 2 rfl (Fr.refl _ _) q3 grow3 (fun g hg => (hat3 g hg).resolve_left (fun h => absurd h.1 (by decide)))
        clear q3 grow3 hat3
        have H9 : Heap w0 w3 ([blkP bo 65 #[.int .i64 rv], blkP bk 2 #[.int .i64 fk1], rowP 65 1 (.slice a3 (i + 1) c3) (i + 1) (intC (refsN s.ar.slots.length i) ++ [.int .i64 rv]), rowP 2 1 (.slice ak i ck) i (intC (leafK n b i ps)), rowP 3 1 (.slice (some pa1) (partK n b) pc) (partK n b) (intsC (partsN n b))] ++ (wdL c (ldW s (leafN n b (i + 1) ps)) ++ Z)) := H9
        have DHH3 := Lib.hid H9
        clear H9 DHH2
        refine hK9.out _ _ (fun _ => ⟨_, DHH3⟩) ?_
        clear hK9 K9
        try simp only [Act.put, List.getElem_toArray, List.getElem_cons_zero, List.getElem_cons_succ, List.setIfInBounds_toArray, List.set_cons_zero, List.set_cons_succ]
        refine AnyK.one (i := 10) (by kernel_rfl) rfl (fun K9 hK9 => ?_)
        refine step_append_typed _ (by rfl) (.tmp 103) (.tmp 108) 22 (by rfl) 2 j0 (.int .i64 0) 1 8 Try.underlying22 J0.out.1 J0.out.2.1 J0.out.2.2.1 J0.out.2.2.2 rfl (by decide) (.slice ak i ck) i (intC (leafK n b i ps)) (by simp [Act.eval]) (DHH3.out.row 3 rfl) (.slice (some ⟨bk, 0, none⟩) 1 1) 1 [.int .i64 fk1] (by simp [Act.eval]) (RdV.block (cs := #[.int .i64 fk1]) (t := 2) (DHH3.out.blk 1 rfl) rfl (by decide)) (by simp [Value.oneCell']) HL.out.1 HL.out.2 ?_
        intro a9 c9 w9 q9 grow9 hat9
        have H9 := DHH3.out.growRow 3 rfl (Fr.refl _ _) q9 grow9 (fun g hg => (hat9 g hg).resolve_left (fun h => absurd h.1 (by decide)))
        clear q9 grow9 hat9
        have H9 : Heap w0 w9 ([blkP bo 65 #[.int .i64 rv], blkP bk 2 #[.int .i64 fk1], rowP 65 1 (.slice a3 (i + 1) c3) (i + 1) (intC (refsN s.ar.slots.length i) ++ [.int .i64 rv]), rowP 2 1 (.slice a9 (i + 1) c9) (i + 1) (intC (leafK n b i ps) ++ [.int .i64 fk1]), rowP 3 1 (.slice (some pa1) (partK n b) pc) (partK n b) (intsC (partsN n b))] ++ (wdL c (ldW s (leafN n b (i + 1) ps)) ++ Z)) := H9
        have DHH4 := Lib.hid H9
        clear H9 DHH3
        refine hK9.out _ _ (fun _ => ⟨_, DHH4⟩) ?_
        clear hK9 K9
        try simp only [Act.put, List.getElem_toArray, List.getElem_cons_zero, List.getElem_cons_succ, List.setIfInBounds_toArray, List.set_cons_zero, List.set_cons_succ]
        refine AnyK.phase (S' := fun _ => True) (ks' := []) (by kernel_rfl) ?_
        refine AnyK.take (i := 11) (v := ?_) rfl (by kernel_rfl) (by kernel_rfl) (by kernel_rfl) (by kernel_rfl) (fun _ _ _ h => h) (Or.inl ⟨by rfl, ?_⟩) (by exact trivial) ?_
        rotate_left
        focus
          intro w9 hSw
          try dsimp only at hSw
          go_simp
          try with_reducible rfl
        try simp only [Act.put, List.getElem_toArray, List.getElem_cons_zero, List.getElem_cons_succ, List.setIfInBounds_toArray, List.set_cons_zero, List.set_cons_succ]
        refine AnyK.take (i := 12) (v := ?_) rfl (by kernel_rfl) (by kernel_rfl) (by kernel_rfl) (by kernel_rfl) (fun _ _ _ h => h) (Or.inl ⟨by rfl, ?_⟩) (by exact trivial) ?_
        rotate_left
        focus
          intro w9 hSw
          try dsimp only at hSw
          go_simp
          try with_reducible rfl
        try simp only [Act.put, List.getElem_toArray, List.getElem_cons_zero, List.getElem_cons_succ, List.setIfInBounds_toArray, List.set_cons_zero, List.set_cons_succ]
        have H9 := DHH4.out
        have H9 := H9.tailP.tailP
        refine AnyK.done (by kernel_rfl) ?_ _
        refine NoPanic.normal ?_
        have HX : Hid (Heap w0 _ ([rowP 65 1 (.slice a3 (i + 1) c3) (i + 1) (intC (refsN s.ar.slots.length (i + 1))), rowP 2 1 (.slice a9 (i + 1) c9) (i + 1) (intC (leafK n b (i + 1) ps)), rowP 3 1 (.slice (some pa1) (partK n b) pc) (partK n b) (intsC (partsN n b))] ++ (wdL c (ldW s (leafN n b (i + 1) ps)) ++ Z))) := Lib.hid (by
          rw [refsN_snoc, HRV.out, HN.out.2.1, intC_snoc, intC_snoc]
          exact H9)
        clear H9 DHH4
        go_wp2_with fail
        go_meet
        exact ⟨a3, c3, a9, c9, rfl, rfl, HX⟩
    case rest =>
    obtain ⟨ao2, co2, ak2, ck2, rfl, rfl, HH7⟩ := hcut
    clear HH6 HF2
    rename World => w7
    have HX : Hid (Heap w0 w7 ([rowP 65 1 (.slice ao2 (i + 1) co2) (i + 1) (intC (refsN s.ar.slots.length (i + 1))), rowP 2 1 (.slice ak2 (i + 1) ck2) (i + 1) (intC (leafK n b (i + 1) ps)), rowP 3 1 (.slice (some pa1) (partK n b) pc) (partK n b) (intsC (partsN n b))] ++ (wdL c (ldW s (leafN n b (i + 1) ps)) ++ Z))) := HH7
    have HRX : Hid ((∀ z q l, Heap w0 z (l ++ (wdQ c s q ++ Z)) → RdV z (.slice vr (n - sumP n b (i + 1)) (c1 - k)) (n - sumP n b (i + 1)) 2 (pairC (ps.drop (sumP n b (i + 1)))))) := Lib.hid (by
      rw [HN.out.2.2.1, show n - (m + k) = lm - k by have := HM9.out.2.2.1; omega]
      exact fun z q l hz => (HV.out z q l hz).2)
    have HSX : Hid (n - sumP n b (i + 1) = lm - k) := Lib.hid (by rw [HN.out.2.2.1]; have := HM9.out.2.2.1; omega)
    clear HH7
    rename ∀ (a : Act) (w : World), Code.wp Try.prog _ _ a w → _ => hK8
    refine hK8 _ _ ?_
    clear hK8
    go_upto_region 21 with fail
    rw [HE.out.2]
    go_wp2_with fail
    rw [← HSX.out]
    exact ⟨⟨i + 1, vr, c1 - k, ao2, co2, ak2, ck2, by go_num, by omega, rfl, rfl, rfl, HRX, HX⟩, by simp [intOf]; omega⟩
  · obtain rfl : i = partK n b := by omega
    have HH2 : Hid (Heap w0 wr (wdL c (ldW s (leafNds (partsN n b) ps)) ++ ([rowP 65 1 (.slice ao (partK n b) co) (partK n b) (intC (refsN s.ar.slots.length (partK n b))), rowP 2 1 (.slice ak (partK n b) ck) (partK n b) (intC (leafKeys (partsN n b) ps))] ++ Z))) := Lib.hid (by
      have h := HH.out
      rw [leafN_all, leafK_all] at h
      have h := Heap.mid (l := [rowP 65 1 (.slice ao (partK n b) co) (partK n b) (intC (refsN s.ar.slots.length (partK n b))), rowP 2 1 (.slice ak (partK n b) ck) (partK n b) (intC (leafKeys (partsN n b) ps))]) (m := [rowP 3 1 (.slice pa (partK n b) pc) (partK n b) (intsC (partsN n b))]) h
      exact heap_front (D := []) h)
    have HI2 : Hid (loadUp b s.ar.slots.length n (leafNds (partsN n b) ps) (refsN s.ar.slots.length (partK n b)) (leafKeys (partsN n b) ps) = loadNds b s.ar.slots.length ps ∧ (leafNds (partsN n b) ps).length + nodesUp b n (partK n b) = nn) := Lib.hid (by
      refine ⟨by unfold loadNds; rw [HPL.out], ?_⟩
      have h1 := HU.out.1
      unfold nodesN at h1
      rw [if_neg (by omega)] at h1
      rw [leafNds_len, partsN_len, nodesUp_fuel HB.out.1 n (partK n b) (partK n b) (by omega) (by omega), h1])
    clear HH HRD
    go_wp2_with fail
    go_loopw [7, 8] (fun s7 s8 wr => ∃ (f : Nat) (nds : List Nd) (row fs : List Int) (a1 : Option Addr) (c1 : Nat) (a2 : Option Addr) (c2 : Nat), s7 = .slice a1 row.length c1 ∧ s8 = .slice a2 row.length c2 ∧ 1 ≤ row.length ∧ row.length ≤ f + 1 ∧ row.length ≤ 10000 ∧ Hid (loadUp b s.ar.slots.length f nds row fs = loadNds b s.ar.slots.length ps ∧ fs.length = row.length ∧ nds.length + nodesUp b f row.length = nn ∧ Heap w0 wr (wdL c (ldW s nds) ++ ([rowP 65 1 (.slice a1 row.length c1) row.length (intC row), rowP 2 1 (.slice a2 row.length c2) row.length (intC fs)] ++ Z)))) (fun s7 _ _ => lenV s7)
    case atStart =>
      refine ⟨n, leafNds (partsN n b) ps, refsN s.ar.slots.length (partK n b), leafKeys (partsN n b) ps, ao, co, ak, ck, by rw [refsN_len], by rw [refsN_len], by rw [refsN_len]; exact hk1, by rw [refsN_len]; omega, by rw [refsN_len]; omega, Lib.hid ⟨HI2.out.1, by rw [leafKeys_len, partsN_len, refsN_len], by rw [refsN_len]; exact HI2.out.2, ?_⟩⟩
      rw [refsN_len]
      exact HH2.out
    case round =>
    clear HH2 HI2
    obtain ⟨f, nds, row, fs, a1, c1, a2, c2, rfl, rfl, hr1, hrf, hr2, HQ⟩ := hrel
    obtain ⟨r, hr⟩ : ∃ r, row.length = r := ⟨_, rfl⟩
    by_cases hlt : 1 < row.length
    · obtain ⟨f', rfl⟩ : ∃ f', f = f' + 1 := ⟨f - 1, by omega⟩
      obtain ⟨q1, q2, q3, H0⟩ := HQ.out
      rw [loadUp_go f' hlt] at q1
      rw [nodesUp_go hlt] at q3
      have hp1 := partK_less HB.out.1 hlt
      have hp2 := partK_pos row.length b
      obtain ⟨e0, e4, e5⟩ := wb_cells (l := []) (q := areP c.ab (addAr s.ar nds)) H0
      have CU := up_h H0 row.length b row fs ⟨hlt, by omega⟩ rfl q2 ⟨HB.out.1, HB.out.2.1⟩ HB.out.2.2 (HRM.out.less (by omega)) (.slice a1 row.length c1) (.slice a2 row.length c2) (fun z q l hz => ⟨((Heap.swapF hz).row 4 rfl).rdv, by
        have := ((Heap.swapF hz).row 5 (t := 2) (sz := 1) (n := row.length) (v := .slice a2 row.length c2) (us := intC fs) rfl).rdv
        exact this⟩)
      have CU := Lib.hid CU
      have HI := Lib.hid (And.intro q1 (And.intro q2 q3))
      rw [hr] at CU hp1 hp2 hr1 hrf hr2 hlt ⊢
      have hri : (1 : Int) < (r : Int) := by omega
      have HR9 := Lib.hid hr
      clear HQ H0 q1 q2 q3 e4 e5 hr
      go_wp2_with fail
      refine CU.out.mono ?_
      rintro e w5 ⟨a3, c3, a4, c4, rfl, H5⟩
      have HX := Lib.hid (heap_front H5)
      clear CU H5 e0
      go_wp2_with fail
      refine ⟨⟨f', nds ++ upNds (partsN r b) row fs, refsN (s.ar.slots.length + nds.length) (partK r b), upKeys (partsN r b) fs, a3, c3, a4, c4, by rw [refsN_len], by rw [refsN_len], by rw [refsN_len]; exact hp2, by rw [refsN_len]; omega, by rw [refsN_len]; omega, Lib.hid ⟨?_, ?_, ?_, ?_⟩⟩, by simp [lenV]; omega⟩
      · rw [← HR9.out]; exact HI.out.1
      · rw [upKeys_len, partsN_len, refsN_len]
      · rw [refsN_len, List.length_append, upNds_len, partsN_len, Nat.add_assoc, ← HR9.out]; exact HI.out.2.2
      · rw [refsN_len]; exact HX.out
    · obtain rfl : r = 1 := by omega
      obtain ⟨q1, q2, q3, H0⟩ := HQ.out
      rw [loadUp_stop f (by omega)] at q1
      obtain ⟨rv, rfl⟩ : ∃ x, row = [x] := by
        match row, hr with
        | [x], _ => exact ⟨x, rfl⟩
      have H1 : Heap w0 wr (wdL c (ldW s nds) ++ ([rowP 65 1 (.slice a1 1 c1) 1 (intC [rv]), rowP 2 1 (.slice a2 1 c2) 1 (intC fs)] ++ Z)) := H0
      have HQ2 := Lib.hid q1
      have h1 : (loadNds b s.ar.slots.length ps).1 = nds := by rw [← q1]
      have h2 : (loadNds b s.ar.slots.length ps).2 = [rv] := by rw [← q1]
      have hlw : loadW c s b old ps = { s with ar := (freeAr old (swapWayAr c.entry 0 old rv (addAr s.ar nds)).2).2 } := by unfold loadW; rw [h1, h2]; rfl
      have hok : OkN (addAr s.ar nds) 40000 := by
        have g1 := HAT.out.ok.add nds (by rw [← h1]; exact loadNds_few HB.out.1 (by rw [HPL.out]; omega) (by rw [HPL.out]; omega))
        have g2 := loadNds_len (n0 := s.ar.slots.length) (l := ps) HB.out.1 (by rw [HPL.out]; omega)
        rw [h1, HPL.out] at g2
        have g3 := nodesN_le (n := n) HB.out.1
        have g4 := HM.out.2.1
        exact g1.up (by omega)
      have hok2 := hok.swapWayL c.entry 0 old rv
      have hfr : (swapWayAr c.entry 0 old rv (addAr s.ar nds)).2.free = [] := by rw [swapWay_free]; exact HM.out.2.2
      have HOK := Lib.hid (And.intro hok (And.intro hok2 (And.intro hfr hlw)))
      obtain ⟨ar1, har1⟩ : ∃ x, addAr s.ar nds = x := ⟨_, rfl⟩
      have H1 : Heap w0 wr (wdL c { s with ar := addAr s.ar nds } ++ ([rowP 65 1 (.slice a1 1 c1) 1 (intC [rv]), rowP 2 1 (.slice a2 1 c2) 1 (intC fs)] ++ Z)) := H1
      rw [har1] at H1 HOK
      obtain ⟨g1, rfl, hc1, hat⟩ := (H1.row 4 rfl).rdv.at (by decide)
      have HH := Lib.hid H1
      have HF : Hid (∀ z, (∃ l, Hid (Heap w0 z (l ++ (wdL c { s with ar := ar1 } ++ ([rowP 65 1 (.slice (some g1) 1 c1) 1 (intC [rv]), rowP 2 1 (.slice a2 1 c2) 1 (intC fs)] ++ Z))))) → World.cell? z g1 = some (.int .i64 rv) ∧ World.cell? z ⟨c.wb, 0, none⟩ = some (pt c.ab) ∧ World.cell? z ⟨c.wb, 5, none⟩ = some (.int .i64 c.entry)) := Lib.hid (fun z ⟨l, hz⟩ => by
        obtain ⟨g9, e, _, hat⟩ := ((Heap.swapF hz.out).row 4 (t := 65) (sz := 1) (n := 1) (v := .slice (some g1) 1 c1) (us := intC [rv]) rfl).rdv.at (by decide)
        have e : g1 = g9 := by simpa using e
        subst e
        have h0 := hat 0 (.int .i64 rv) rfl
        rw [add_zero'] at h0
        obtain ⟨k0, _, k5⟩ := wb_cells (q := areP c.ab ar1) hz.out
        exact ⟨h0, k0, k5⟩)
      clear HQ H0 H1 q1 q2 q3 h1 h2 hlw hok hok2 hfr har1 hat HRM hr hrf hr1 hr2
      go_upto_region 24 with fail
      have HZ := Lib.hid HH.out.drew
      clear HH
      refine wp_region_noPanic ?_
      refine AnyK.start (ks := [12]) (S := fun w' => ∃ l, Hid (Heap w0 w' (l ++ (wdL c { s with ar := ar1 } ++ ([rowP 65 1 (.slice (some g1) 1 c1) 1 (intC [rv]), rowP 2 1 (.slice a2 1 c2) 1 (intC fs)] ++ Z))))) (by kernel_rfl) (by exact ⟨[], HZ⟩) (fun _ => ?_)
      refine AnyK.takeB (i := 0) (v := ?_) rfl (by kernel_rfl) (by kernel_rfl) (by kernel_rfl) (by kernel_rfl) (fun _ _ _ h => h) (Or.inl ⟨by kernel_rfl, ?_⟩) (by exact ⟨[], HZ⟩) ?_
      rotate_left
      focus
        intro w9 hSw
        have hSw := HF.out w9 hSw
        go_simp
        try with_reducible rfl
      try simp only [Act.put, List.getElem_toArray, List.getElem_cons_zero, List.getElem_cons_succ, List.setIfInBounds_toArray, List.set_cons_zero, List.set_cons_succ]
      refine AnyK.takeB (i := 1) (v := ?_) rfl (by kernel_rfl) (by kernel_rfl) (by kernel_rfl) (by kernel_rfl) (fun _ _ _ h => h) (Or.inl ⟨by kernel_rfl, ?_⟩) (by exact ⟨[], HZ⟩) ?_
      rotate_left
      focus
        intro w9 hSw
        have hSw := HF.out w9 hSw
        go_simp
        try with_reducible rfl
      try simp only [Act.put, List.getElem_toArray, List.getElem_cons_zero, List.getElem_cons_succ, List.setIfInBounds_toArray, List.set_cons_zero, List.set_cons_succ]
      refine AnyK.takeB (i := 2) (v := ?_) rfl (by kernel_rfl) (by kernel_rfl) (by kernel_rfl) (by kernel_rfl) (fun _ _ _ h => h) (Or.inl ⟨by kernel_rfl, ?_⟩) (by exact ⟨[], HZ⟩) ?_
      rotate_left
      focus
        intro w9 hSw
        have hSw := HF.out w9 hSw
        go_simp
        try with_reducible rfl
      try simp only [Act.put, List.getElem_toArray, List.getElem_cons_zero, List.getElem_cons_succ, List.setIfInBounds_toArray, List.set_cons_zero, List.set_cons_succ]
      refine AnyK.takeB (i := 3) (v := ?_) rfl (by kernel_rfl) (by kernel_rfl) (by kernel_rfl) (by kernel_rfl) (fun _ _ _ h => h) (Or.inl ⟨by kernel_rfl, ?_⟩) (by exact ⟨[], HZ⟩) ?_
      rotate_left
      focus
        intro w9 hSw
        have hSw := HF.out w9 hSw
        go_simp
        try with_reducible rfl
      try simp only [Act.put, List.getElem_toArray, List.getElem_cons_zero, List.getElem_cons_succ, List.setIfInBounds_toArray, List.set_cons_zero, List.set_cons_succ]
      refine AnyK.takeB (i := 4) (v := ?_) rfl (by kernel_rfl) (by kernel_rfl) (by kernel_rfl) (by kernel_rfl) (fun _ _ _ h => h) (Or.inl ⟨by kernel_rfl, ?_⟩) (by exact ⟨[], HZ⟩) ?_
      rotate_left
      focus
        intro w9 hSw
        have hSw := HF.out w9 hSw
        go_simp
        try with_reducible rfl
      try simp only [Act.put, List.getElem_toArray, List.getElem_cons_zero, List.getElem_cons_succ, List.setIfInBounds_toArray, List.set_cons_zero, List.set_cons_succ]
      refine AnyK.takeB (i := 5) (v := ?_) rfl (by kernel_rfl) (by kernel_rfl) (by kernel_rfl) (by kernel_rfl) (fun _ _ _ h => h) (Or.inl ⟨by kernel_rfl, ?_⟩) (by exact ⟨[], HZ⟩) ?_
      rotate_left
      focus
        intro w9 hSw
        have hSw := HF.out w9 hSw
        go_simp
        try with_reducible rfl
      try simp only [Act.put, List.getElem_toArray, List.getElem_cons_zero, List.getElem_cons_succ, List.setIfInBounds_toArray, List.set_cons_zero, List.set_cons_succ]
      refine AnyK.takeB (i := 6) (v := ?_) rfl (by kernel_rfl) (by kernel_rfl) (by kernel_rfl) (by kernel_rfl) (fun _ _ _ h => h) (Or.inl ⟨by kernel_rfl, ?_⟩) (by exact ⟨[], HZ⟩) ?_
      rotate_left
      focus
        intro w9 hSw
        have hSw := HF.out w9 hSw
        go_simp
        try with_reducible rfl
      try simp only [Act.put, List.getElem_toArray, List.getElem_cons_zero, List.getElem_cons_succ, List.setIfInBounds_toArray, List.set_cons_zero, List.set_cons_succ]
      refine AnyK.takeB (i := 7) (v := ?_) rfl (by kernel_rfl) (by kernel_rfl) (by kernel_rfl) (by kernel_rfl) (fun _ _ _ h => h) (Or.inl ⟨by kernel_rfl, ?_⟩) (by exact ⟨[], HZ⟩) ?_
      rotate_left
      focus
        intro w9 hSw
        have hSw := HF.out w9 hSw
        go_simp
        try with_reducible rfl
      try simp only [Act.put, List.getElem_toArray, List.getElem_cons_zero, List.getElem_cons_succ, List.setIfInBounds_toArray, List.set_cons_zero, List.set_cons_succ]
      refine AnyK.takeB (i := 8) (v := ?_) rfl (by kernel_rfl) (by kernel_rfl) (by kernel_rfl) (by kernel_rfl) (fun _ _ _ h => h) (Or.inl ⟨by kernel_rfl, ?_⟩) (by exact ⟨[], HZ⟩) ?_
      rotate_left
      focus
        intro w9 hSw
        have hSw := HF.out w9 hSw
        go_simp
        try with_reducible rfl
      try simp only [Act.put, List.getElem_toArray, List.getElem_cons_zero, List.getElem_cons_succ, List.setIfInBounds_toArray, List.set_cons_zero, List.set_cons_succ]
      refine AnyK.takeB (i := 9) (v := ?_) rfl (by kernel_rfl) (by kernel_rfl) (by kernel_rfl) (by kernel_rfl) (fun _ _ _ h => h) (Or.inl ⟨by kernel_rfl, ?_⟩) (by exact ⟨[], HZ⟩) ?_
      rotate_left
      focus
        intro w9 hSw
        have hSw := HF.out w9 hSw
        go_simp
        try with_reducible rfl
      try simp only [Act.put, List.getElem_toArray, List.getElem_cons_zero, List.getElem_cons_succ, List.setIfInBounds_toArray, List.set_cons_zero, List.set_cons_succ]
      refine AnyK.takeB (i := 10) (v := ?_) rfl (by kernel_rfl) (by kernel_rfl) (by kernel_rfl) (by kernel_rfl) (fun _ _ _ h => h) (Or.inl ⟨by kernel_rfl, ?_⟩) (by exact ⟨[], HZ⟩) ?_
      rotate_left
      focus
        intro w9 hSw
        have hSw := HF.out w9 hSw
        go_simp
        try with_reducible rfl
      try simp only [Act.put, List.getElem_toArray, List.getElem_cons_zero, List.getElem_cons_succ, List.setIfInBounds_toArray, List.set_cons_zero, List.set_cons_succ]
      refine AnyK.takeB (i := 11) (v := ?_) rfl (by kernel_rfl) (by kernel_rfl) (by kernel_rfl) (by kernel_rfl) (fun _ _ _ h => h) (Or.inl ⟨by kernel_rfl, ?_⟩) (by exact ⟨[], HZ⟩) ?_
      rotate_left
      focus
        intro w9 hSw
        have hSw := HF.out w9 hSw
        go_simp
        try with_reducible rfl
      try simp only [Act.put, List.getElem_toArray, List.getElem_cons_zero, List.getElem_cons_succ, List.setIfInBounds_toArray, List.set_cons_zero, List.set_cons_succ]
      refine AnyK.one (i := 12) (by kernel_rfl) rfl (fun K9 hK9 => ?_)
      go_simp
      refine (SwapWay_h HZ.out 1 rfl (HOK.out.1.ok (by decide)) c.entry 0 old rv).mono ?_
      rintro e w5 ⟨rfl, H9⟩
      have H9 : Heap w0 w5 (wdL c { s with ar := (swapWayAr c.entry 0 old rv ar1).2 } ++ ([rowP 65 1 (.slice (some g1) 1 c1) 1 (intC [rv]), rowP 2 1 (.slice a2 1 c2) 1 (intC fs)] ++ Z)) := H9
      have H5 := Lib.hid H9
      clear H9
      dsimp only
      refine hK9.out _ _ (fun h => absurd (by decide) h) ?_
      clear hK9 K9
      try simp only [Act.put, List.getElem_toArray, List.getElem_cons_zero, List.getElem_cons_succ, List.setIfInBounds_toArray, List.set_cons_zero, List.set_cons_succ]
      refine AnyK.done (by kernel_rfl) ?_ _
      refine NoPanic.normal ?_
      clear HF HZ
      obtain ⟨e0, e4, e5⟩ := wb_cells (l := []) (q := areP c.ab (swapWayAr c.entry 0 old rv ar1).2) H5.out
      have CF := Lib.hid (Free_h H5.out 1 rfl (HOK.out.2.1.ok (by decide)) (by rw [HOK.out.2.2.1]; simp) old)
      clear H5
      go_wp2_with fail
      refine CF.out.mono ?_
      rintro e w7 ⟨rfl, H7⟩
      have H7 : Heap w0 w7 (wdL c { s with ar := (freeAr old (swapWayAr c.entry 0 old rv ar1).2).2 } ++ ([rowP 65 1 (.slice (some g1) 1 c1) 1 (intC [rv]), rowP 2 1 (.slice a2 1 c2) 1 (intC fs)] ++ Z)) := H7
      have H8 := Lib.hid (Heap.mid (m := [rowP 65 1 (.slice (some g1) 1 c1) 1 (intC [rv]), rowP 2 1 (.slice a2 1 c2) 1 (intC fs)]) (r := Z) (by simpa using H7))
      clear CF H7 e0 e4 e5
      go_wp2_with fail
      go_ret
      rw [HOK.out.2.2.2]
      exact ⟨rfl, H8.out⟩
end Go.Proofs.Ytkbnoceekileiaa
