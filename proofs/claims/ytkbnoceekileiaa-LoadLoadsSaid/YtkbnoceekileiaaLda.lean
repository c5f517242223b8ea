/- load.Load where nothing is loaded: an error, or no pairs. No condition but the bounds of size. -/
import Derived.Test.YtkbnoceekileiaaUp
namespace Go.Proofs.Ytkbnoceekileiaa
open Go Go.RowKit
set_option linter.unusedVariables false
set_option linter.unusedSimpArgs false
set_option maxRecDepth 100000
/-- The root, and what it is. -/
structure LdAt (c : Wc) (s : Wd) (old : Int) (nd : Nd) (N : Nat) : Prop where
  ok : OkN s.ar N
  big : N ≤ 60000
  way : wayAr c.entry 0 s.ar = (old, s.ar)
  look : lookAr old s.ar = (nd, s.ar)
theorem wb_cells {w0 w : World} {l : List Piece} {c : Wc} {s : Wd} {q : Piece} {Z : List Piece} (h : Heap w0 w (l ++ (wdQ c s q ++ Z))) : w.cell? ⟨c.wb, 0, none⟩ = some (pt c.ab) ∧ w.cell? ⟨c.wb, 4, none⟩ = some (.int .i64 c.b) ∧ w.cell? ⟨c.wb, 5, none⟩ = some (.int .i64 c.entry) := by
  have C0 := (Heap.swapF h).blk 0 (b := c.wb) (t := 67) (c := c.cells) rfl
  exact ⟨C0.cell 0, C0.cell 4, C0.cell 5⟩
set_option maxHeartbeats 200000000 in
theorem Load_order {w0 w : World} {c : Wc} {s : Wd} {Z : List Piece} {old : Int} {nd : Nd} {N : Nat} (h : Heap w0 w (wdL c s ++ Z)) (at_ : LdAt c s old nd N) (v : Value) (ps : List (Int × Int)) (hps : ps.length ≤ 10000) (hR : ∀ z q l, Heap w0 z (l ++ (wdQ c s q ++ Z)) → RdV z v ps.length 2 (pairC ps)) (hris : ¬ RisesP ps) :
    Calls Try.prog 29 #[.pointer (some ⟨c.wb, 0, none⟩), v] w fun e w' => e = .returned (.int .i64 6) ∧ Heap w0 w' (wdL c s ++ Z) := by
  obtain ⟨va, vc, rfl⟩ := (hR _ (areP c.ab s.ar) [] h).len
  obtain ⟨e0, e4, e5⟩ := wb_cells (l := []) (q := areP c.ab s.ar) h
  have CR := Lib.hid (LRisesB_calls _ ps w (hR _ (areP c.ab s.ar) [] h) false (by simp [hris]))
  have HH := Lib.hid h
  have HAT := Lib.hid at_
  have HR := Lib.hid hR
  have HRS := Lib.hid hris
  clear h at_ hR hris
  go_enter Try.func29, Try.ntmps29
  go_wp2_with (refine CR.out.mono ?_; rintro e w2 ⟨rfl, hw2⟩)
  have HX := Lib.hid (HH.out.go hw2)
  go_wp2_with fail
  go_ret
  exact ⟨rfl, HX.out⟩
set_option maxHeartbeats 200000000 in
theorem Load_full {w0 w : World} {c : Wc} {s : Wd} {Z : List Piece} {old : Int} {nd : Nd} {N : Nat} (h : Heap w0 w (wdL c s ++ Z)) (at_ : LdAt c s old nd N) (v : Value) (ps : List (Int × Int)) (hps : ps.length ≤ 10000) (hR : ∀ z q l, Heap w0 z (l ++ (wdQ c s q ++ Z)) → RdV z v ps.length 2 (pairC ps)) (hris : RisesP ps) (hfull : nd.inner = true ∨ nd.pairs ≠ []) :
    Calls Try.prog 29 #[.pointer (some ⟨c.wb, 0, none⟩), v] w fun e w' => e = .returned (.int .i64 7) ∧ Heap w0 w' (wdL c s ++ Z) := by
  obtain ⟨va, vc, rfl⟩ := (hR _ (areP c.ab s.ar) [] h).len
  obtain ⟨e0, e4, e5⟩ := wb_cells (l := []) (q := areP c.ab s.ar) h
  have CR := Lib.hid (LRisesB_calls _ ps w (hR _ (areP c.ab s.ar) [] h) true (by simp [hris]))
  have HH := Lib.hid h
  have HAT := Lib.hid at_
  have HR := Lib.hid hR
  have HRS := Lib.hid hris
  clear h at_ hR hris
  go_enter Try.func29, Try.ntmps29
  go_wp2_with (refine CR.out.mono ?_; rintro e w2 ⟨rfl, hw2⟩)
  have H2 := HH.out.go hw2
  clear HH CR hw2 e0 e4 e5
  have HH := Lib.hid H2
  clear H2
  go_upto_region 5 with fail
  have HZ := Lib.hid (HH.out.drew)
  clear HH
  have HF : Hid (∀ z, (∃ l, Hid (Heap w0 z (l ++ (wdL c s ++ Z)))) → World.cell? z ⟨c.wb, 0, none⟩ = some (pt c.ab) ∧ World.cell? z ⟨c.wb, 5, none⟩ = some (.int .i64 c.entry)) := Lib.hid (fun z ⟨l, hz⟩ => ⟨(wb_cells (q := areP c.ab s.ar) hz.out).1, (wb_cells (q := areP c.ab s.ar) hz.out).2.2⟩)
  go_cut [5] from 25 to 33 (fun s5 wx => s5 = .int .i64 old ∧ Hid (Heap w0 wx (wdL c s ++ Z)))
  case first =>
    refine wp_region_noPanic ?_
    refine AnyK.start (ks := [8, 9]) (S := fun w' => ∃ l, Hid (Heap w0 w' (l ++ (wdL c s ++ Z)))) (by kernel_rfl) (by exact ⟨[], HZ⟩) (fun _ => ?_)
    refine AnyK.takeB (i := 0) (v := ?_) rfl (by kernel_rfl) (by kernel_rfl) (by kernel_rfl) (by kernel_rfl) (fun _ _ _ h => h) (Or.inl ⟨by kernel_rfl, ?_⟩) (by exact ⟨[], HZ⟩) ?_
    rotate_left
    focus
      intro w9 hSw
      have hSw := HF.out w9 hSw
      go_simp
      try with_reducible rfl
    try simp only [Act.put, List.getElem_toArray, List.getElem_cons_zero, List.getElem_cons_succ, List.setIfInBounds_toArray, List.set_cons_zero, List.set_cons_succ]
    refine AnyK.takeB (i := 1) (v := ?_) rfl (by kernel_rfl) (by kernel_rfl) (by kernel_rfl) (by kernel_rfl) (fun _ _ _ h => h) (Or.inl ⟨by kernel_rfl, ?_⟩) (by exact ⟨[], HZ⟩) ?_
    rotate_left
    focus
      intro w9 hSw
      have hSw := HF.out w9 hSw
      go_simp
      try with_reducible rfl
    try simp only [Act.put, List.getElem_toArray, List.getElem_cons_zero, List.getElem_cons_succ, List.setIfInBounds_toArray, List.set_cons_zero, List.set_cons_succ]
    refine AnyK.takeB (i := 2) (v := ?_) rfl (by kernel_rfl) (by kernel_rfl) (by kernel_rfl) (by kernel_rfl) (fun _ _ _ h => h) (Or.inl ⟨by kernel_rfl, ?_⟩) (by exact ⟨[], HZ⟩) ?_
    rotate_left
    focus
      intro w9 hSw
      have hSw := HF.out w9 hSw
      go_simp
      try with_reducible rfl
    try simp only [Act.put, List.getElem_toArray, List.getElem_cons_zero, List.getElem_cons_succ, List.setIfInBounds_toArray, List.set_cons_zero, List.set_cons_succ]
    refine AnyK.takeB (i := 3) (v := ?_) rfl (by kernel_rfl) (by kernel_rfl) (by kernel_rfl) (by kernel_rfl) (fun _ _ _ h => h) (Or.inl ⟨by kernel_rfl, ?_⟩) (by exact ⟨[], HZ⟩) ?_
    rotate_left
    focus
      intro w9 hSw
      have hSw := HF.out w9 hSw
      go_simp
      try with_reducible rfl
    try simp only [Act.put, List.getElem_toArray, List.getElem_cons_zero, List.getElem_cons_succ, List.setIfInBounds_toArray, List.set_cons_zero, List.set_cons_succ]
    refine AnyK.takeB (i := 4) (v := ?_) rfl (by kernel_rfl) (by kernel_rfl) (by kernel_rfl) (by kernel_rfl) (fun _ _ _ h => h) (Or.inl ⟨by kernel_rfl, ?_⟩) (by exact ⟨[], HZ⟩) ?_
    rotate_left
    focus
      intro w9 hSw
      have hSw := HF.out w9 hSw
      go_simp
      try with_reducible rfl
    try simp only [Act.put, List.getElem_toArray, List.getElem_cons_zero, List.getElem_cons_succ, List.setIfInBounds_toArray, List.set_cons_zero, List.set_cons_succ]
    refine AnyK.takeB (i := 5) (v := ?_) rfl (by kernel_rfl) (by kernel_rfl) (by kernel_rfl) (by kernel_rfl) (fun _ _ _ h => h) (Or.inl ⟨by kernel_rfl, ?_⟩) (by exact ⟨[], HZ⟩) ?_
    rotate_left
    focus
      intro w9 hSw
      have hSw := HF.out w9 hSw
      go_simp
      try with_reducible rfl
    try simp only [Act.put, List.getElem_toArray, List.getElem_cons_zero, List.getElem_cons_succ, List.setIfInBounds_toArray, List.set_cons_zero, List.set_cons_succ]
    refine AnyK.takeB (i := 6) (v := ?_) rfl (by kernel_rfl) (by kernel_rfl) (by kernel_rfl) (by kernel_rfl) (fun _ _ _ h => h) (Or.inl ⟨by kernel_rfl, ?_⟩) (by exact ⟨[], HZ⟩) ?_
    rotate_left
    focus
      intro w9 hSw
      have hSw := HF.out w9 hSw
      go_simp
      try with_reducible rfl
    try simp only [Act.put, List.getElem_toArray, List.getElem_cons_zero, List.getElem_cons_succ, List.setIfInBounds_toArray, List.set_cons_zero, List.set_cons_succ]
    refine AnyK.takeB (i := 7) (v := ?_) rfl (by kernel_rfl) (by kernel_rfl) (by kernel_rfl) (by kernel_rfl) (fun _ _ _ h => h) (Or.inl ⟨by kernel_rfl, ?_⟩) (by exact ⟨[], HZ⟩) ?_
    rotate_left
    focus
      intro w9 hSw
      have hSw := HF.out w9 hSw
      go_simp
      try with_reducible rfl
    try simp only [Act.put, List.getElem_toArray, List.getElem_cons_zero, List.getElem_cons_succ, List.setIfInBounds_toArray, List.set_cons_zero, List.set_cons_succ]
    refine AnyK.one (i := 8) (by kernel_rfl) rfl (fun K9 hK9 => ?_)
    go_simp
    refine (Way_h HZ.out 1 rfl (HAT.out.ok.ok HAT.out.big) c.entry 0).mono ?_
    rintro e w5 ⟨rfl, H9⟩
    rw [HAT.out.way]
    rw [HAT.out.way] at H9
    have H9 : Heap w0 w5 (wdL c s ++ Z) := H9
    have H5 := Lib.hid H9
    clear H9
    dsimp only
    refine hK9.out _ _ (fun h => absurd (by decide) h) ?_
    clear hK9 K9
    try simp only [Act.put, List.getElem_toArray, List.getElem_cons_zero, List.getElem_cons_succ, List.setIfInBounds_toArray, List.set_cons_zero, List.set_cons_succ]
    refine AnyK.phase (S' := fun _ => True) (ks' := []) (by kernel_rfl) ?_
    refine AnyK.take (i := 9) (v := ?_) rfl (by kernel_rfl) (by kernel_rfl) (by kernel_rfl) (by kernel_rfl) (fun _ _ _ h => h) (Or.inl ⟨by rfl, ?_⟩) (by exact trivial) ?_
    rotate_left
    focus
      intro w9 hSw
      try dsimp only at hSw
      go_simp
      try with_reducible rfl
    try simp only [Act.put, List.getElem_toArray, List.getElem_cons_zero, List.getElem_cons_succ, List.setIfInBounds_toArray, List.set_cons_zero, List.set_cons_succ]
    refine AnyK.done (by kernel_rfl) ?_ _
    refine NoPanic.normal ?_
    go_wp2_with fail
    go_meet
    exact ⟨rfl, H5⟩
  case rest =>
  obtain ⟨rfl, HH⟩ := hcut
  clear HF HZ
  rename World => w3
  obtain ⟨e0, e4, e5⟩ := wb_cells (l := []) (q := areP c.ab s.ar) HH.out
  have CL := Look_h HH.out 1 rfl (HAT.out.ok.ok HAT.out.big) HAT.out.ok.nds old
  rw [HAT.out.look] at CL
  have CL := Lib.hid CL
  clear HH
  go_wp2_with fail
  refine CL.out.mono ?_
  rintro e w6 ⟨vp, vk, vn, rfl, H6⟩
  have H6 : Heap w0 w6 (wdL c s ++ Z ++ ndL nd vp vk vn) := H6
  have H6 := Heap.swapF H6
  obtain ⟨ap, cp, rfl, _⟩ := (H6.row 0 rfl).form
  obtain ⟨ak, ck, rfl, _⟩ := (H6.row 1 rfl).form
  obtain ⟨an, cn, rfl, _⟩ := (H6.row 2 rfl).form
  have H7 := H6.allocF 112 #[.bool nd.inner, .bool nd.tagged, .slice ap nd.pairs.length cp, .slice ak nd.keys.length ck, .slice an nd.ways.length cn]
  obtain ⟨lp, hlp⟩ : ∃ n, nd.pairs.length = n := ⟨_, rfl⟩
  obtain ⟨P, hP⟩ : ∃ r, w6.heap.size = r := ⟨_, rfl⟩
  obtain ⟨w7, hw7⟩ : ∃ z, w6.alloc (.cells #[.bool nd.inner, .bool nd.tagged, .slice ap nd.pairs.length cp, .slice ak nd.keys.length ck, .slice an nd.ways.length cn] 112) = z := ⟨_, rfl⟩
  rw [hP, hw7] at H7
  have B7 := H7.blk 0 rfl
  have z0 := B7.cell 0
  have z2 := B7.cell 2
  have HH := Lib.hid (H7.tailP.tailP.tailP.tailP)
  have HWW := Lib.hid (And.intro hP hw7)
  have HLP := Lib.hid hlp
  rw [HLP.out] at z2
  unfold ndV
  clear CL H6 H7 B7 hP hw7 hlp
  go_upto_region 7 with fail
  rw [HWW.out.1, HWW.out.2]
  clear HWW
  obtain ⟨inn, hin⟩ : ∃ x, nd.inner = x := ⟨_, rfl⟩
  rw [hin] at z0
  have HIN := Lib.hid hin
  clear hin
  cases inn with
  | true =>
    go_wp2_with fail
    go_ret
    exact ⟨rfl, HH.out⟩
  | false =>
    have hlp0 : 0 < (lp : Int) := by
      have h1 := hfull.resolve_left (by rw [HIN.out]; simp)
      have h2 := HLP.out
      have h3 : nd.pairs.length ≠ 0 := fun e => h1 (List.eq_nil_of_length_eq_zero e)
      omega
    clear hfull
    go_wp2_with fail
    go_ret
    exact ⟨rfl, HH.out⟩
set_option maxHeartbeats 200000000 in
theorem Load_zero {w0 w : World} {c : Wc} {s : Wd} {Z : List Piece} {old : Int} {nd : Nd} {N : Nat} (h : Heap w0 w (wdL c s ++ Z)) (at_ : LdAt c s old nd N) (v : Value) (ps : List (Int × Int)) (hps : ps.length ≤ 10000) (hR : ∀ z q l, Heap w0 z (l ++ (wdQ c s q ++ Z)) → RdV z v ps.length 2 (pairC ps)) (hris : RisesP ps) (hno : nd.inner = false ∧ nd.pairs = []) (hz : ps = []) :
    Calls Try.prog 29 #[.pointer (some ⟨c.wb, 0, none⟩), v] w fun e w' => e = .returned (.int .i64 0) ∧ Heap w0 w' (wdL c s ++ Z) := by
  obtain ⟨va, vc, rfl⟩ := (hR _ (areP c.ab s.ar) [] h).len
  obtain ⟨e0, e4, e5⟩ := wb_cells (l := []) (q := areP c.ab s.ar) h
  have CR := Lib.hid (LRisesB_calls _ ps w (hR _ (areP c.ab s.ar) [] h) true (by simp [hris]))
  have HH := Lib.hid h
  have HAT := Lib.hid at_
  have HR := Lib.hid hR
  have HRS := Lib.hid hris
  have HNO := Lib.hid hno
  have HZZ := Lib.hid hz
  clear hno hz
  clear h at_ hR hris
  go_enter Try.func29, Try.ntmps29
  go_wp2_with (refine CR.out.mono ?_; rintro e w2 ⟨rfl, hw2⟩)
  have H2 := HH.out.go hw2
  clear HH CR hw2 e0 e4 e5
  have HH := Lib.hid H2
  clear H2
  go_upto_region 5 with fail
  have HZ := Lib.hid (HH.out.drew)
  clear HH
  have HF : Hid (∀ z, (∃ l, Hid (Heap w0 z (l ++ (wdL c s ++ Z)))) → World.cell? z ⟨c.wb, 0, none⟩ = some (pt c.ab) ∧ World.cell? z ⟨c.wb, 5, none⟩ = some (.int .i64 c.entry)) := Lib.hid (fun z ⟨l, hz⟩ => ⟨(wb_cells (q := areP c.ab s.ar) hz.out).1, (wb_cells (q := areP c.ab s.ar) hz.out).2.2⟩)
  go_cut [5] from 25 to 33 (fun s5 wx => s5 = .int .i64 old ∧ Hid (Heap w0 wx (wdL c s ++ Z)))
  case first =>
    refine wp_region_noPanic ?_
    refine AnyK.start (ks := [8, 9]) (S := fun w' => ∃ l, Hid (Heap w0 w' (l ++ (wdL c s ++ Z)))) (by kernel_rfl) (by exact ⟨[], HZ⟩) (fun _ => ?_)
    refine AnyK.takeB (i := 0) (v := ?_) rfl (by kernel_rfl) (by kernel_rfl) (by kernel_rfl) (by kernel_rfl) (fun _ _ _ h => h) (Or.inl ⟨by kernel_rfl, ?_⟩) (by exact ⟨[], HZ⟩) ?_
    rotate_left
    focus
      intro w9 hSw
      have hSw := HF.out w9 hSw
      go_simp
      try with_reducible rfl
    try simp only [Act.put, List.getElem_toArray, List.getElem_cons_zero, List.getElem_cons_succ, List.setIfInBounds_toArray, List.set_cons_zero, List.set_cons_succ]
    refine AnyK.takeB (i := 1) (v := ?_) rfl (by kernel_rfl) (by kernel_rfl) (by kernel_rfl) (by kernel_rfl) (fun _ _ _ h => h) (Or.inl ⟨by kernel_rfl, ?_⟩) (by exact ⟨[], HZ⟩) ?_
    rotate_left
    focus
      intro w9 hSw
      have hSw := HF.out w9 hSw
      go_simp
      try with_reducible rfl
    try simp only [Act.put, List.getElem_toArray, List.getElem_cons_zero, List.getElem_cons_succ, List.setIfInBounds_toArray, List.set_cons_zero, List.set_cons_succ]
    refine AnyK.takeB (i := 2) (v := ?_) rfl (by kernel_rfl) (by kernel_rfl) (by kernel_rfl) (by kernel_rfl) (fun _ _ _ h => h) (Or.inl ⟨by kernel_rfl, ?_⟩) (by exact ⟨[], HZ⟩) ?_
    rotate_left
    focus
      intro w9 hSw
      have hSw := HF.out w9 hSw
      go_simp
      try with_reducible rfl
    try simp only [Act.put, List.getElem_toArray, List.getElem_cons_zero, List.getElem_cons_succ, List.setIfInBounds_toArray, List.set_cons_zero, List.set_cons_succ]
    refine AnyK.takeB (i := 3) (v := ?_) rfl (by kernel_rfl) (by kernel_rfl) (by kernel_rfl) (by kernel_rfl) (fun _ _ _ h => h) (Or.inl ⟨by kernel_rfl, ?_⟩) (by exact ⟨[], HZ⟩) ?_
    rotate_left
    focus
      intro w9 hSw
      have hSw := HF.out w9 hSw
      go_simp
      try with_reducible rfl
    try simp only [Act.put, List.getElem_toArray, List.getElem_cons_zero, List.getElem_cons_succ, List.setIfInBounds_toArray, List.set_cons_zero, List.set_cons_succ]
    refine AnyK.takeB (i := 4) (v := ?_) rfl (by kernel_rfl) (by kernel_rfl) (by kernel_rfl) (by kernel_rfl) (fun _ _ _ h => h) (Or.inl ⟨by kernel_rfl, ?_⟩) (by exact ⟨[], HZ⟩) ?_
    rotate_left
    focus
      intro w9 hSw
      have hSw := HF.out w9 hSw
      go_simp
      try with_reducible rfl
    try simp only [Act.put, List.getElem_toArray, List.getElem_cons_zero, List.getElem_cons_succ, List.setIfInBounds_toArray, List.set_cons_zero, List.set_cons_succ]
    refine AnyK.takeB (i := 5) (v := ?_) rfl (by kernel_rfl) (by kernel_rfl) (by kernel_rfl) (by kernel_rfl) (fun _ _ _ h => h) (Or.inl ⟨by kernel_rfl, ?_⟩) (by exact ⟨[], HZ⟩) ?_
    rotate_left
    focus
      intro w9 hSw
      have hSw := HF.out w9 hSw
      go_simp
      try with_reducible rfl
    try simp only [Act.put, List.getElem_toArray, List.getElem_cons_zero, List.getElem_cons_succ, List.setIfInBounds_toArray, List.set_cons_zero, List.set_cons_succ]
    refine AnyK.takeB (i := 6) (v := ?_) rfl (by kernel_rfl) (by kernel_rfl) (by kernel_rfl) (by kernel_rfl) (fun _ _ _ h => h) (Or.inl ⟨by kernel_rfl, ?_⟩) (by exact ⟨[], HZ⟩) ?_
    rotate_left
    focus
      intro w9 hSw
      have hSw := HF.out w9 hSw
      go_simp
      try with_reducible rfl
    try simp only [Act.put, List.getElem_toArray, List.getElem_cons_zero, List.getElem_cons_succ, List.setIfInBounds_toArray, List.set_cons_zero, List.set_cons_succ]
    refine AnyK.takeB (i := 7) (v := ?_) rfl (by kernel_rfl) (by kernel_rfl) (by kernel_rfl) (by kernel_rfl) (fun _ _ _ h => h) (Or.inl ⟨by kernel_rfl, ?_⟩) (by exact ⟨[], HZ⟩) ?_
    rotate_left
    focus
      intro w9 hSw
      have hSw := HF.out w9 hSw
      go_simp
      try with_reducible rfl
    try simp only [Act.put, List.getElem_toArray, List.getElem_cons_zero, List.getElem_cons_succ, List.setIfInBounds_toArray, List.set_cons_zero, List.set_cons_succ]
    refine AnyK.one (i := 8) (by kernel_rfl) rfl (fun K9 hK9 => ?_)
    go_simp
    refine (Way_h HZ.out 1 rfl (HAT.out.ok.ok HAT.out.big) c.entry 0).mono ?_
    rintro e w5 ⟨rfl, H9⟩
    rw [HAT.out.way]
    rw [HAT.out.way] at H9
    have H9 : Heap w0 w5 (wdL c s ++ Z) := H9
    have H5 := Lib.hid H9
    clear H9
    dsimp only
    refine hK9.out _ _ (fun h => absurd (by decide) h) ?_
    clear hK9 K9
    try simp only [Act.put, List.getElem_toArray, List.getElem_cons_zero, List.getElem_cons_succ, List.setIfInBounds_toArray, List.set_cons_zero, List.set_cons_succ]
    refine AnyK.phase (S' := fun _ => True) (ks' := []) (by kernel_rfl) ?_
    refine AnyK.take (i := 9) (v := ?_) rfl (by kernel_rfl) (by kernel_rfl) (by kernel_rfl) (by kernel_rfl) (fun _ _ _ h => h) (Or.inl ⟨by rfl, ?_⟩) (by exact trivial) ?_
    rotate_left
    focus
      intro w9 hSw
      try dsimp only at hSw
      go_simp
      try with_reducible rfl
    try simp only [Act.put, List.getElem_toArray, List.getElem_cons_zero, List.getElem_cons_succ, List.setIfInBounds_toArray, List.set_cons_zero, List.set_cons_succ]
    refine AnyK.done (by kernel_rfl) ?_ _
    refine NoPanic.normal ?_
    go_wp2_with fail
    go_meet
    exact ⟨rfl, H5⟩
  case rest =>
  obtain ⟨rfl, HH⟩ := hcut
  clear HF HZ
  rename World => w3
  obtain ⟨e0, e4, e5⟩ := wb_cells (l := []) (q := areP c.ab s.ar) HH.out
  have CL := Look_h HH.out 1 rfl (HAT.out.ok.ok HAT.out.big) HAT.out.ok.nds old
  rw [HAT.out.look] at CL
  have CL := Lib.hid CL
  clear HH
  go_wp2_with fail
  refine CL.out.mono ?_
  rintro e w6 ⟨vp, vk, vn, rfl, H6⟩
  have H6 : Heap w0 w6 (wdL c s ++ Z ++ ndL nd vp vk vn) := H6
  have H6 := Heap.swapF H6
  obtain ⟨ap, cp, rfl, _⟩ := (H6.row 0 rfl).form
  obtain ⟨ak, ck, rfl, _⟩ := (H6.row 1 rfl).form
  obtain ⟨an, cn, rfl, _⟩ := (H6.row 2 rfl).form
  have H7 := H6.allocF 112 #[.bool nd.inner, .bool nd.tagged, .slice ap nd.pairs.length cp, .slice ak nd.keys.length ck, .slice an nd.ways.length cn]
  obtain ⟨lp, hlp⟩ : ∃ n, nd.pairs.length = n := ⟨_, rfl⟩
  obtain ⟨P, hP⟩ : ∃ r, w6.heap.size = r := ⟨_, rfl⟩
  obtain ⟨w7, hw7⟩ : ∃ z, w6.alloc (.cells #[.bool nd.inner, .bool nd.tagged, .slice ap nd.pairs.length cp, .slice ak nd.keys.length ck, .slice an nd.ways.length cn] 112) = z := ⟨_, rfl⟩
  rw [hP, hw7] at H7
  have B7 := H7.blk 0 rfl
  have z0 := B7.cell 0
  have z2 := B7.cell 2
  have HH := Lib.hid (H7.tailP.tailP.tailP.tailP)
  have HWW := Lib.hid (And.intro hP hw7)
  have HLP := Lib.hid hlp
  rw [HLP.out] at z2
  unfold ndV
  clear CL H6 H7 B7 hP hw7 hlp
  go_upto_region 7 with fail
  rw [HWW.out.1, HWW.out.2]
  clear HWW
  obtain ⟨inn, hin⟩ : ∃ x, nd.inner = x := ⟨_, rfl⟩
  rw [hin] at z0
  have HIN := Lib.hid hin
  clear hin
  obtain rfl : inn = false := by have := HIN.out; have := HNO.out.1; cases inn <;> simp_all
  obtain rfl : lp = 0 := by have := HLP.out; rw [HNO.out.2] at this; simpa using this.symm
  have hz := HZZ.out
  subst hz
  go_wp2_with fail
  go_ret
  exact ⟨rfl, HH.out⟩
end Go.Proofs.Ytkbnoceekileiaa
