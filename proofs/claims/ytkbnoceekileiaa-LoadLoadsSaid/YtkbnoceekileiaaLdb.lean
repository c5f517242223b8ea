/- load.Load: too little room; the nodes of the even tree. No condition but the bounds of size. -/
import Derived.Test.YtkbnoceekileiaaLda
import Derived.Test.YtkbnoceekileiaaUse
namespace Go.Proofs.Ytkbnoceekileiaa
open Go Go.RowKit
set_option linter.unusedVariables false
set_option linter.unusedSimpArgs false
set_option maxRecDepth 100000
theorem nodesN_le {n b : Nat} (hb : 2 ≤ b) : nodesN n b ≤ 3 * n + 3 := by
  unfold nodesN
  split
  · omega
  · have h1 := nodesUp_le hb (partK n b) (partK n b)
    have h2 := partK_le (k := n) (b := b) (by omega) (by omega)
    omega
theorem nodesUp_fuel {b : Nat} (hb : 2 ≤ b) : ∀ (f g k : Nat), k ≤ f + 1 → k ≤ g + 1 → nodesUp b f k = nodesUp b g k
  | 0, g, k, h1, h2 => by
    cases g with
    | zero => rfl
    | succ g => unfold nodesUp; rw [if_pos (by omega)]
  | f + 1, 0, k, h1, h2 => by unfold nodesUp; rw [if_pos (by omega)]
  | f + 1, g + 1, k, h1, h2 => by
    unfold nodesUp
    by_cases hk : k ≤ 1
    · rw [if_pos hk, if_pos hk]
    · rw [if_neg hk, if_neg hk]
      have h3 := partK_less hb (show 2 ≤ k by omega)
      rw [nodesUp_fuel hb f g (partK k b) (by omega) (by omega)]
def leafN (n b i : Nat) (l : List (Int × Int)) : List Nd := leafNds ((partsN n b).take i) l
def leafK (n b i : Nat) (l : List (Int × Int)) : List Int := leafKeys ((partsN n b).take i) l
theorem leafN_next {n b i : Nat} (h : i < partK n b) (l : List (Int × Int)) : leafN n b (i + 1) l = leafN n b i l ++ [⟨false, false, (l.drop (sumP n b i)).take (partAt n b i), [], []⟩] := by
  unfold leafN
  rw [partsN_next h, leafNds_snoc]
  rfl
theorem leafK_next {n b i : Nat} (h : i < partK n b) (l : List (Int × Int)) : leafK n b (i + 1) l = leafK n b i l ++ [((l.drop (sumP n b i)).getD 0 (0, 0)).1] := by
  unfold leafK
  rw [partsN_next h, leafKeys_snoc]
  rfl
theorem leafN_len {n b i : Nat} (h : i ≤ partK n b) (l : List (Int × Int)) : (leafN n b i l).length = i := by
  unfold leafN
  rw [leafNds_len, List.length_take, partsN_len]
  omega
theorem getD_consP {l : List (Int × Int)} {x : Int × Int} {m : Nat} (h : l[m]? = some x) : ((l.drop m).getD 0 (0, 0)).1 = x.1 ∧ (pairC (l.drop m))[0]? = some (.int .i64 x.1) := by
  have h1 : (l.drop m)[0]? = some x := by rw [List.getElem?_drop]; exact h
  have h2 := (pairC_get2 (i := 0) h1).1
  exact ⟨by rw [List.getD_eq_getElem?_getD, h1]; rfl, h2⟩
theorem sliced_k2 (g : Addr) (k n c : Nat) : sliced (some g) k n c 2 = .slice (if c = k then some g else some (g.add (k * 2))) (n - k) (c - k) := by simp [sliced]
theorem loadNds_len {n0 b : Nat} {l : List (Int × Int)} (hb : 2 ≤ b) (hl : 1 ≤ l.length) : (loadNds b n0 l).1.length = nodesN l.length b := by
  unfold loadNds nodesN
  rw [loadUp_len, leafNds_len, partsN_len, refsN_len, if_neg (by omega)]
  have h1 := partK_le (k := l.length) (b := b) (by omega) hl
  rw [nodesUp_fuel hb l.length (partK l.length b) (partK l.length b) (by omega) (by omega)]
/-- What is left when all is loaded. -/
def loadW (c : Wc) (s : Wd) (b : Nat) (old : Int) (ps : List (Int × Int)) : Wd := { s with ar := (freeAr old (swapWayAr c.entry 0 old ((loadNds b s.ar.slots.length ps).2.getD 0 0) (addAr s.ar (loadNds b s.ar.slots.length ps).1)).2).2 }
set_option maxHeartbeats 200000000 in
theorem Load_memory {w0 w : World} {c : Wc} {s : Wd} {Z : List Piece} {old : Int} {nd : Nd} {N : Nat} (h : Heap w0 w (wdL c s ++ Z)) (at_ : LdAt c s old nd N) (v : Value) (ps : List (Int × Int)) (hps : ps.length ≤ 20000) (hR : ∀ z q l, Heap w0 z (l ++ (wdQ c s q ++ Z)) → RdV z v ps.length 2 (pairC ps)) {b : Nat} (hb : 2 ≤ b ∧ b ≤ 1000000) (hcb : c.b = (b : Int)) (hris : RisesP ps) (hno : nd.inner = false ∧ nd.pairs = []) (hz : ps ≠ []) (hm : s.ar.most < s.ar.used + (nodesN ps.length b : Int)) :
    Calls Try.prog 29 #[.pointer (some ⟨c.wb, 0, none⟩), v] w fun e w' => e = .returned (.int .i64 3) ∧ Heap w0 w' (wdL c s ++ Z) := by
  obtain ⟨va, vc, rfl⟩ := (hR _ (areP c.ab s.ar) [] h).len
  obtain ⟨e0, e4, e5⟩ := wb_cells (l := []) (q := areP c.ab s.ar) h
  have CR := Lib.hid (LRisesB_calls _ ps w (hR _ (areP c.ab s.ar) [] h) true (by simp [hris]))
  have HH := Lib.hid h
  have HAT := Lib.hid at_
  have HR := Lib.hid hR
  have HRS := Lib.hid hris
  have HNO := Lib.hid hno
  have HZZ := Lib.hid hz
  clear hno hz
  have HB := Lib.hid (And.intro hb.1 (And.intro hb.2 hcb))
  clear hb hcb
  have HM := Lib.hid hm
  clear hm
  clear h at_ hR hris
  go_enter Try.func29, Try.ntmps29
  go_wp2_with (refine CR.out.mono ?_; rintro e w2 ⟨rfl, hw2⟩)
  have H2 := HH.out.go hw2
  clear HH CR hw2 e0 e4 e5
  have HH := Lib.hid H2
  clear H2
  go_upto_region 5 with fail
  have HZ := Lib.hid (HH.out.drew)
  clear HH
  have HF : Hid (∀ z, (∃ l, Hid (Heap w0 z (l ++ (wdL c s ++ Z)))) → World.cell? z ⟨c.wb, 0, none⟩ = some (pt c.ab) ∧ World.cell? z ⟨c.wb, 5, none⟩ = some (.int .i64 c.entry)) := Lib.hid (fun z ⟨l, hz⟩ => ⟨(wb_cells (q := areP c.ab s.ar) hz.out).1, (wb_cells (q := areP c.ab s.ar) hz.out).2.2⟩)
  go_cut [5] from 25 to 33 (fun s5 wx => s5 = .int .i64 old ∧ Hid (Heap w0 wx (wdL c s ++ Z)))
  case first =>
    refine wp_region_noPanic ?_
    refine AnyK.start (ks := [8, 9]) (S := fun w' => ∃ l, Hid (Heap w0 w' (l ++ (wdL c s ++ Z)))) (by kernel_rfl) (by exact ⟨[], HZ⟩) (fun _ => ?_)
    refine AnyK.takeB (i := 0) (v := ?_) rfl (by kernel_rfl) (by kernel_rfl) (by kernel_rfl) (by kernel_rfl) (fun _ _ _ h => h) (Or.inl ⟨by kernel_rfl, ?_⟩) (by exact ⟨[], HZ⟩) ?_
    rotate_left
    focus
      intro w9 hSw
      have hSw := HF.out w9 hSw
      go_simp
      try with_reducible rfl
    try simp only [Act.put, List.getElem_toArray, List.getElem_cons_zero, List.getElem_cons_succ, List.setIfInBounds_toArray, List.set_cons_zero, List.set_cons_succ]
    refine AnyK.takeB (i := 1) (v := ?_) rfl (by kernel_rfl) (by kernel_rfl) (by kernel_rfl) (by kernel_rfl) (fun _ _ _ h => h) (Or.inl ⟨by kernel_rfl, ?_⟩) (by exact ⟨[], HZ⟩) ?_
    rotate_left
    focus
      intro w9 hSw
      have hSw := HF.out w9 hSw
      go_simp
      try with_reducible rfl
    try simp only [Act.put, List.getElem_toArray, List.getElem_cons_zero, List.getElem_cons_succ, List.setIfInBounds_toArray, List.set_cons_zero, List.set_cons_succ]
    refine AnyK.takeB (i := 2) (v := ?_) rfl (by kernel_rfl) (by kernel_rfl) (by kernel_rfl) (by kernel_rfl) (fun _ _ _ h => h) (Or.inl ⟨by kernel_rfl, ?_⟩) (by exact ⟨[], HZ⟩) ?_
    rotate_left
    focus
      intro w9 hSw
      have hSw := HF.out w9 hSw
      go_simp
      try with_reducible rfl
    try simp only [Act.put, List.getElem_toArray, List.getElem_cons_zero, List.getElem_cons_succ, List.setIfInBounds_toArray, List.set_cons_zero, List.set_cons_succ]
    refine AnyK.takeB (i := 3) (v := ?_) rfl (by kernel_rfl) (by kernel_rfl) (by kernel_rfl) (by kernel_rfl) (fun _ _ _ h => h) (Or.inl ⟨by kernel_rfl, ?_⟩) (by exact ⟨[], HZ⟩) ?_
    rotate_left
    focus
      intro w9 hSw
      have hSw := HF.out w9 hSw
      go_simp
      try with_reducible rfl
    try simp only [Act.put, List.getElem_toArray, List.getElem_cons_zero, List.getElem_cons_succ, List.setIfInBounds_toArray, List.set_cons_zero, List.set_cons_succ]
    refine AnyK.takeB (i := 4) (v := ?_) rfl (by kernel_rfl) (by kernel_rfl) (by kernel_rfl) (by kernel_rfl) (fun _ _ _ h => h) (Or.inl ⟨by kernel_rfl, ?_⟩) (by exact ⟨[], HZ⟩) ?_
    rotate_left
    focus
      intro w9 hSw
      have hSw := HF.out w9 hSw
      go_simp
      try with_reducible rfl
    try simp only [Act.put, List.getElem_toArray, List.getElem_cons_zero, List.getElem_cons_succ, List.setIfInBounds_toArray, List.set_cons_zero, List.set_cons_succ]
    refine AnyK.takeB (i := 5) (v := ?_) rfl (by kernel_rfl) (by kernel_rfl) (by kernel_rfl) (by kernel_rfl) (fun _ _ _ h => h) (Or.inl ⟨by kernel_rfl, ?_⟩) (by exact ⟨[], HZ⟩) ?_
    rotate_left
    focus
      intro w9 hSw
      have hSw := HF.out w9 hSw
      go_simp
      try with_reducible rfl
    try simp only [Act.put, List.getElem_toArray, List.getElem_cons_zero, List.getElem_cons_succ, List.setIfInBounds_toArray, List.set_cons_zero, List.set_cons_succ]
    refine AnyK.takeB (i := 6) (v := ?_) rfl (by kernel_rfl) (by kernel_rfl) (by kernel_rfl) (by kernel_rfl) (fun _ _ _ h => h) (Or.inl ⟨by kernel_rfl, ?_⟩) (by exact ⟨[], HZ⟩) ?_
    rotate_left
    focus
      intro w9 hSw
      have hSw := HF.out w9 hSw
      go_simp
      try with_reducible rfl
    try simp only [Act.put, List.getElem_toArray, List.getElem_cons_zero, List.getElem_cons_succ, List.setIfInBounds_toArray, List.set_cons_zero, List.set_cons_succ]
    refine AnyK.takeB (i := 7) (v := ?_) rfl (by kernel_rfl) (by kernel_rfl) (by kernel_rfl) (by kernel_rfl) (fun _ _ _ h => h) (Or.inl ⟨by kernel_rfl, ?_⟩) (by exact ⟨[], HZ⟩) ?_
    rotate_left
    focus
      intro w9 hSw
      have hSw := HF.out w9 hSw
      go_simp
      try with_reducible rfl
    try simp only [Act.put, List.getElem_toArray, List.getElem_cons_zero, List.getElem_cons_succ, List.setIfInBounds_toArray, List.set_cons_zero, List.set_cons_succ]
    refine AnyK.one (i := 8) (by kernel_rfl) rfl (fun K9 hK9 => ?_)
    go_simp
    refine (Way_h HZ.out 1 rfl (HAT.out.ok.ok HAT.out.big) c.entry 0).mono ?_
    rintro e w5 ⟨rfl, H9⟩
    rw [HAT.out.way]
    rw [HAT.out.way] at H9
    have H9 : Heap w0 w5 (wdL c s ++ Z) := H9
    have H5 := Lib.hid H9
    clear H9
    dsimp only
    refine hK9.out _ _ (fun h => absurd (by decide) h) ?_
    clear hK9 K9
    try simp only [Act.put, List.getElem_toArray, List.getElem_cons_zero, List.getElem_cons_succ, List.setIfInBounds_toArray, List.set_cons_zero, List.set_cons_succ]
    refine AnyK.phase (S' := fun _ => True) (ks' := []) (by kernel_rfl) ?_
    refine AnyK.take (i := 9) (v := ?_) rfl (by kernel_rfl) (by kernel_rfl) (by kernel_rfl) (by kernel_rfl) (fun _ _ _ h => h) (Or.inl ⟨by rfl, ?_⟩) (by exact trivial) ?_
    rotate_left
    focus
      intro w9 hSw
      try dsimp only at hSw
      go_simp
      try with_reducible rfl
    try simp only [Act.put, List.getElem_toArray, List.getElem_cons_zero, List.getElem_cons_succ, List.setIfInBounds_toArray, List.set_cons_zero, List.set_cons_succ]
    refine AnyK.done (by kernel_rfl) ?_ _
    refine NoPanic.normal ?_
    go_wp2_with fail
    go_meet
    exact ⟨rfl, H5⟩
  case rest =>
  obtain ⟨rfl, HH⟩ := hcut
  clear HF HZ
  rename World => w3
  obtain ⟨e0, e4, e5⟩ := wb_cells (l := []) (q := areP c.ab s.ar) HH.out
  have CL := Look_h HH.out 1 rfl (HAT.out.ok.ok HAT.out.big) HAT.out.ok.nds old
  rw [HAT.out.look] at CL
  have CL := Lib.hid CL
  clear HH
  go_wp2_with fail
  refine CL.out.mono ?_
  rintro e w6 ⟨vp, vk, vn, rfl, H6⟩
  have H6 : Heap w0 w6 (wdL c s ++ Z ++ ndL nd vp vk vn) := H6
  have H6 := Heap.swapF H6
  obtain ⟨ap, cp, rfl, _⟩ := (H6.row 0 rfl).form
  obtain ⟨ak, ck, rfl, _⟩ := (H6.row 1 rfl).form
  obtain ⟨an, cn, rfl, _⟩ := (H6.row 2 rfl).form
  have H7 := H6.allocF 112 #[.bool nd.inner, .bool nd.tagged, .slice ap nd.pairs.length cp, .slice ak nd.keys.length ck, .slice an nd.ways.length cn]
  obtain ⟨lp, hlp⟩ : ∃ n, nd.pairs.length = n := ⟨_, rfl⟩
  obtain ⟨P, hP⟩ : ∃ r, w6.heap.size = r := ⟨_, rfl⟩
  obtain ⟨w7, hw7⟩ : ∃ z, w6.alloc (.cells #[.bool nd.inner, .bool nd.tagged, .slice ap nd.pairs.length cp, .slice ak nd.keys.length ck, .slice an nd.ways.length cn] 112) = z := ⟨_, rfl⟩
  rw [hP, hw7] at H7
  have B7 := H7.blk 0 rfl
  have z0 := B7.cell 0
  have z2 := B7.cell 2
  have HH := Lib.hid (H7.tailP.tailP.tailP.tailP)
  have HWW := Lib.hid (And.intro hP hw7)
  have HLP := Lib.hid hlp
  rw [HLP.out] at z2
  unfold ndV
  clear CL H6 H7 B7 hP hw7 hlp
  go_upto_region 7 with fail
  rw [HWW.out.1, HWW.out.2]
  clear HWW
  obtain ⟨inn, hin⟩ : ∃ x, nd.inner = x := ⟨_, rfl⟩
  rw [hin] at z0
  have HIN := Lib.hid hin
  clear hin
  obtain rfl : inn = false := by have := HIN.out; have := HNO.out.1; cases inn <;> simp_all
  obtain rfl : lp = 0 := by have := HLP.out; rw [HNO.out.2] at this; simpa using this.symm
  obtain ⟨n, hn⟩ : ∃ n, ps.length = n := ⟨_, rfl⟩
  have HPL := Lib.hid hn
  have hn1 : 1 ≤ n := by
    have h1 : ps.length ≠ 0 := fun e => HZZ.out (List.eq_nil_of_length_eq_zero e)
    omega
  have hn2 : n ≤ 20000 := by omega
  rw [hn]
  clear hn hps
  have hnz : ((n : Int) == 0) = false := beq_eq_false_iff_ne.2 (by omega)
  have hnm : ¬ (2097152 : Int) < (n : Int) := by omega
  have hnd : decide ((2097152 : Int) < (n : Int)) = false := decide_eq_false hnm
  have hnl := nodesN_le (n := n) (b := b) HB.out.1
  obtain ⟨nn, hnn⟩ : ∃ x, nodesN n b = x := ⟨_, rfl⟩
  rw [hnn] at hnl
  obtain ⟨us, hus⟩ : ∃ x, s.ar.used = x := ⟨_, rfl⟩
  obtain ⟨mo, hmo⟩ : ∃ x, s.ar.most = x := ⟨_, rfl⟩
  have hub := HAT.out.ok.used
  have hbig := HAT.out.big
  rw [hus] at hub
  have hu1 : -60000 ≤ us := by omega
  have hu2 : us ≤ 60000 := by omega
  have HWR := Lib.hid (show IntKind.i64.wrap (us + (nn : Int)) = us + (nn : Int) by rw [IntKind.wrap_i64]; omega)
  have HU := Lib.hid (And.intro hnn (And.intro hus hmo))
  clear hub hbig hnn hus hmo
  go_upto_region 11 with fail
  have HZ := Lib.hid (HH.out.drew)
  clear HH z0 z2
  have HF : Hid (∀ z, (∃ l, Hid (Heap w0 z (l ++ (wdL c s ++ Z)))) → World.cell? z ⟨c.wb, 0, none⟩ = some (pt c.ab) ∧ World.cell? z ⟨c.wb, 4, none⟩ = some (.int .i64 (b : Int))) := Lib.hid (fun z ⟨l, hz⟩ => ⟨(wb_cells (q := areP c.ab s.ar) hz.out).1, by rw [← HB.out.2.2]; exact (wb_cells (q := areP c.ab s.ar) hz.out).2.1⟩)
  go_cut [74] from 51 to 74 (fun s74 wx => s74 = .bool (decide (mo < us + (nn : Int))) ∧ Hid (Heap w0 wx (wdL c s ++ Z)))
  case first =>
    refine wp_region_noPanic ?_
    refine AnyK.start (ks := []) (S := fun w' => ∃ l, Hid (Heap w0 w' (l ++ (wdL c s ++ Z)))) (by kernel_rfl) (by exact ⟨[], HZ⟩) (fun _ => ?_)
    refine AnyK.take (i := 0) (v := ?_) rfl (by kernel_rfl) (by kernel_rfl) (by kernel_rfl) (by kernel_rfl) (fun _ _ _ h => h) (Or.inl ⟨by kernel_rfl, ?_⟩) (by exact ⟨[], HZ⟩) ?_
    rotate_left
    focus
      intro w9 hSw
      have hSw := HF.out w9 hSw
      go_simp
      try with_reducible rfl
    try simp only [Act.put, List.getElem_toArray, List.getElem_cons_zero, List.getElem_cons_succ, List.setIfInBounds_toArray, List.set_cons_zero, List.set_cons_succ]
    refine AnyK.take (i := 1) (v := ?_) rfl (by kernel_rfl) (by kernel_rfl) (by kernel_rfl) (by kernel_rfl) (fun _ _ _ h => h) (Or.inl ⟨by kernel_rfl, ?_⟩) (by exact ⟨[], HZ⟩) ?_
    rotate_left
    focus
      intro w9 hSw
      have hSw := HF.out w9 hSw
      go_simp
      try with_reducible rfl
    try simp only [Act.put, List.getElem_toArray, List.getElem_cons_zero, List.getElem_cons_succ, List.setIfInBounds_toArray, List.set_cons_zero, List.set_cons_succ]
    refine AnyK.take (i := 2) (v := ?_) rfl (by kernel_rfl) (by kernel_rfl) (by kernel_rfl) (by kernel_rfl) (fun _ _ _ h => h) (Or.inl ⟨by kernel_rfl, ?_⟩) (by exact ⟨[], HZ⟩) ?_
    rotate_left
    focus
      intro w9 hSw
      have hSw := HF.out w9 hSw
      go_simp
      try with_reducible rfl
    try simp only [Act.put, List.getElem_toArray, List.getElem_cons_zero, List.getElem_cons_succ, List.setIfInBounds_toArray, List.set_cons_zero, List.set_cons_succ]
    refine AnyK.take (i := 3) (v := ?_) rfl (by kernel_rfl) (by kernel_rfl) (by kernel_rfl) (by kernel_rfl) (fun _ _ _ h => h) (Or.inl ⟨by kernel_rfl, ?_⟩) (by exact ⟨[], HZ⟩) ?_
    rotate_left
    focus
      intro w9 hSw
      have hSw := HF.out w9 hSw
      go_simp
      try with_reducible rfl
    try simp only [Act.put, List.getElem_toArray, List.getElem_cons_zero, List.getElem_cons_succ, List.setIfInBounds_toArray, List.set_cons_zero, List.set_cons_succ]
    refine AnyK.take (i := 4) (v := ?_) rfl (by kernel_rfl) (by kernel_rfl) (by kernel_rfl) (by kernel_rfl) (fun _ _ _ h => h) (Or.inl ⟨by kernel_rfl, ?_⟩) (by exact ⟨[], HZ⟩) ?_
    rotate_left
    focus
      intro w9 hSw
      have hSw := HF.out w9 hSw
      go_simp
      try with_reducible rfl
    try simp only [Act.put, List.getElem_toArray, List.getElem_cons_zero, List.getElem_cons_succ, List.setIfInBounds_toArray, List.set_cons_zero, List.set_cons_succ]
    refine AnyK.take (i := 5) (v := ?_) rfl (by kernel_rfl) (by kernel_rfl) (by kernel_rfl) (by kernel_rfl) (fun _ _ _ h => h) (Or.inl ⟨by kernel_rfl, ?_⟩) (by exact ⟨[], HZ⟩) ?_
    rotate_left
    focus
      intro w9 hSw
      have hSw := HF.out w9 hSw
      go_simp
      try with_reducible rfl
    try simp only [Act.put, List.getElem_toArray, List.getElem_cons_zero, List.getElem_cons_succ, List.setIfInBounds_toArray, List.set_cons_zero, List.set_cons_succ]
    refine AnyK.take (i := 6) (v := ?_) rfl (by kernel_rfl) (by kernel_rfl) (by kernel_rfl) (by kernel_rfl) (fun _ _ _ h => h) (Or.inl ⟨by kernel_rfl, ?_⟩) (by exact ⟨[], HZ⟩) ?_
    rotate_left
    focus
      intro w9 hSw
      have hSw := HF.out w9 hSw
      go_simp
      try with_reducible rfl
    try simp only [Act.put, List.getElem_toArray, List.getElem_cons_zero, List.getElem_cons_succ, List.setIfInBounds_toArray, List.set_cons_zero, List.set_cons_succ]
    refine AnyK.take (i := 7) (v := ?_) rfl (by kernel_rfl) (by kernel_rfl) (by kernel_rfl) (by kernel_rfl) (fun _ _ _ h => h) (Or.inl ⟨by kernel_rfl, ?_⟩) (by exact ⟨[], HZ⟩) ?_
    rotate_left
    focus
      intro w9 hSw
      have hSw := HF.out w9 hSw
      go_simp
      try with_reducible rfl
    try simp only [Act.put, List.getElem_toArray, List.getElem_cons_zero, List.getElem_cons_succ, List.setIfInBounds_toArray, List.set_cons_zero, List.set_cons_succ]
    refine AnyK.take (i := 9) (v := ?_) rfl (by kernel_rfl) (by kernel_rfl) (by kernel_rfl) (by kernel_rfl) (fun _ _ _ h => h) (Or.inl ⟨by kernel_rfl, ?_⟩) (by exact ⟨[], HZ⟩) ?_
    rotate_left
    focus
      intro w9 hSw
      have hSw := HF.out w9 hSw
      go_simp
      try with_reducible rfl
    try simp only [Act.put, List.getElem_toArray, List.getElem_cons_zero, List.getElem_cons_succ, List.setIfInBounds_toArray, List.set_cons_zero, List.set_cons_succ]
    refine AnyK.take (i := 10) (v := ?_) rfl (by kernel_rfl) (by kernel_rfl) (by kernel_rfl) (by kernel_rfl) (fun _ _ _ h => h) (Or.inl ⟨by kernel_rfl, ?_⟩) (by exact ⟨[], HZ⟩) ?_
    rotate_left
    focus
      intro w9 hSw
      have hSw := HF.out w9 hSw
      go_simp
      try with_reducible rfl
    try simp only [Act.put, List.getElem_toArray, List.getElem_cons_zero, List.getElem_cons_succ, List.setIfInBounds_toArray, List.set_cons_zero, List.set_cons_succ]
    refine AnyK.take (i := 11) (v := ?_) rfl (by kernel_rfl) (by kernel_rfl) (by kernel_rfl) (by kernel_rfl) (fun _ _ _ h => h) (Or.inl ⟨by kernel_rfl, ?_⟩) (by exact ⟨[], HZ⟩) ?_
    rotate_left
    focus
      intro w9 hSw
      have hSw := HF.out w9 hSw
      go_simp
      try with_reducible rfl
    try simp only [Act.put, List.getElem_toArray, List.getElem_cons_zero, List.getElem_cons_succ, List.setIfInBounds_toArray, List.set_cons_zero, List.set_cons_succ]
    refine AnyK.take (i := 12) (v := ?_) rfl (by kernel_rfl) (by kernel_rfl) (by kernel_rfl) (by kernel_rfl) (fun _ _ _ h => h) (Or.inl ⟨by kernel_rfl, ?_⟩) (by exact ⟨[], HZ⟩) ?_
    rotate_left
    focus
      intro w9 hSw
      have hSw := HF.out w9 hSw
      go_simp
      try with_reducible rfl
    try simp only [Act.put, List.getElem_toArray, List.getElem_cons_zero, List.getElem_cons_succ, List.setIfInBounds_toArray, List.set_cons_zero, List.set_cons_succ]
    refine AnyK.take (i := 13) (v := ?_) rfl (by kernel_rfl) (by kernel_rfl) (by kernel_rfl) (by kernel_rfl) (fun _ _ _ h => h) (Or.inl ⟨by kernel_rfl, ?_⟩) (by exact ⟨[], HZ⟩) ?_
    rotate_left
    focus
      intro w9 hSw
      have hSw := HF.out w9 hSw
      go_simp
      try with_reducible rfl
    try simp only [Act.put, List.getElem_toArray, List.getElem_cons_zero, List.getElem_cons_succ, List.setIfInBounds_toArray, List.set_cons_zero, List.set_cons_succ]
    refine AnyK.take (i := 14) (v := ?_) rfl (by kernel_rfl) (by kernel_rfl) (by kernel_rfl) (by kernel_rfl) (fun _ _ _ h => h) (Or.inl ⟨by kernel_rfl, ?_⟩) (by exact ⟨[], HZ⟩) ?_
    rotate_left
    focus
      intro w9 hSw
      have hSw := HF.out w9 hSw
      go_simp
      try with_reducible rfl
    try simp only [Act.put, List.getElem_toArray, List.getElem_cons_zero, List.getElem_cons_succ, List.setIfInBounds_toArray, List.set_cons_zero, List.set_cons_succ]
    refine AnyK.take (i := 17) (v := ?_) rfl (by kernel_rfl) (by kernel_rfl) (by kernel_rfl) (by kernel_rfl) (fun _ _ _ h => h) (Or.inl ⟨by kernel_rfl, ?_⟩) (by exact ⟨[], HZ⟩) ?_
    rotate_left
    focus
      intro w9 hSw
      have hSw := HF.out w9 hSw
      go_simp
      try with_reducible rfl
    try simp only [Act.put, List.getElem_toArray, List.getElem_cons_zero, List.getElem_cons_succ, List.setIfInBounds_toArray, List.set_cons_zero, List.set_cons_succ]
    refine AnyK.take (i := 18) (v := ?_) rfl (by kernel_rfl) (by kernel_rfl) (by kernel_rfl) (by kernel_rfl) (fun _ _ _ h => h) (Or.inl ⟨by kernel_rfl, ?_⟩) (by exact ⟨[], HZ⟩) ?_
    rotate_left
    focus
      intro w9 hSw
      have hSw := HF.out w9 hSw
      go_simp
      try with_reducible rfl
    try simp only [Act.put, List.getElem_toArray, List.getElem_cons_zero, List.getElem_cons_succ, List.setIfInBounds_toArray, List.set_cons_zero, List.set_cons_succ]
    refine AnyK.take (i := 19) (v := ?_) rfl (by kernel_rfl) (by kernel_rfl) (by kernel_rfl) (by kernel_rfl) (fun _ _ _ h => h) (Or.inl ⟨by kernel_rfl, ?_⟩) (by exact ⟨[], HZ⟩) ?_
    rotate_left
    focus
      intro w9 hSw
      have hSw := HF.out w9 hSw
      go_simp
      try with_reducible rfl
    try simp only [Act.put, List.getElem_toArray, List.getElem_cons_zero, List.getElem_cons_succ, List.setIfInBounds_toArray, List.set_cons_zero, List.set_cons_succ]
    refine AnyK.take (i := 20) (v := ?_) rfl (by kernel_rfl) (by kernel_rfl) (by kernel_rfl) (by kernel_rfl) (fun _ _ _ h => h) (Or.inl ⟨by kernel_rfl, ?_⟩) (by exact ⟨[], HZ⟩) ?_
    rotate_left
    focus
      intro w9 hSw
      have hSw := HF.out w9 hSw
      go_simp
      try with_reducible rfl
    try simp only [Act.put, List.getElem_toArray, List.getElem_cons_zero, List.getElem_cons_succ, List.setIfInBounds_toArray, List.set_cons_zero, List.set_cons_succ]
    refine AnyK.one (i := 8) (by kernel_rfl) rfl (fun K9 hK9 => ?_)
    go_simp
    refine (Used_h HZ.out 1 rfl).mono ?_
    rintro e w5 ⟨rfl, hw5⟩
    have H5 := Lib.hid HZ.out
    rw [← hw5] at H5
    clear hw5 HZ
    rw [HU.out.2.1]
    dsimp only
    refine hK9.out _ _ (fun _ => ⟨[], H5⟩) ?_
    clear hK9 K9
    try simp only [Act.put, List.getElem_toArray, List.getElem_cons_zero, List.getElem_cons_succ, List.setIfInBounds_toArray, List.set_cons_zero, List.set_cons_succ]
    refine AnyK.one (i := 15) (by kernel_rfl) rfl (fun K9 hK9 => ?_)
    go_simp
    refine (Nodes_h H5.out n b (by omega) ⟨HB.out.1, HB.out.2.1⟩).mono ?_
    rintro e w6 ⟨rfl, H9⟩
    rw [HU.out.1]
    have H6 := Lib.hid H9
    clear H9 H5
    dsimp only
    refine hK9.out _ _ (fun _ => ⟨[], H6⟩) ?_
    clear hK9 K9
    try simp only [Act.put, List.getElem_toArray, List.getElem_cons_zero, List.getElem_cons_succ, List.setIfInBounds_toArray, List.set_cons_zero, List.set_cons_succ]
    refine AnyK.take (i := 16) (v := ?_) rfl (by kernel_rfl) (by kernel_rfl) (by kernel_rfl) (by kernel_rfl) (fun _ _ _ h => h) (Or.inl ⟨by kernel_rfl, ?_⟩) (by exact ⟨[], H6⟩) ?_
    rotate_left
    focus
      intro w9 hSw
      have hSw := HF.out w9 hSw
      go_simp
      try with_reducible rfl
    try simp only [Act.put, List.getElem_toArray, List.getElem_cons_zero, List.getElem_cons_succ, List.setIfInBounds_toArray, List.set_cons_zero, List.set_cons_succ]
    refine AnyK.one (i := 21) (by kernel_rfl) rfl (fun K9 hK9 => ?_)
    go_simp
    refine (Most_h H6.out 1 rfl).mono ?_
    rintro e w7 ⟨rfl, hw7⟩
    have H7 := Lib.hid H6.out
    rw [← hw7] at H7
    clear hw7 H6
    rw [HU.out.2.2]
    dsimp only
    refine hK9.out _ _ (fun _ => ⟨[], H7⟩) ?_
    clear hK9 K9
    try simp only [Act.put, List.getElem_toArray, List.getElem_cons_zero, List.getElem_cons_succ, List.setIfInBounds_toArray, List.set_cons_zero, List.set_cons_succ]
    refine AnyK.take (i := 22) (v := ?_) rfl (by kernel_rfl) (by kernel_rfl) (by kernel_rfl) (by kernel_rfl) (fun _ _ _ h => h) (Or.inl ⟨by kernel_rfl, ?_⟩) (by exact ⟨[], H7⟩) ?_
    rotate_left
    focus
      intro w9 hSw
      have hSw := HF.out w9 hSw
      go_simp
      try with_reducible rfl
    try simp only [Act.put, List.getElem_toArray, List.getElem_cons_zero, List.getElem_cons_succ, List.setIfInBounds_toArray, List.set_cons_zero, List.set_cons_succ]
    refine AnyK.take (i := 23) (v := ?_) rfl (by kernel_rfl) (by kernel_rfl) (by kernel_rfl) (by kernel_rfl) (fun _ _ _ h => h) (Or.inl ⟨by kernel_rfl, ?_⟩) (by exact ⟨[], H7⟩) ?_
    rotate_left
    focus
      intro w9 hSw
      have hSw := HF.out w9 hSw
      go_simp
      try with_reducible rfl
    try simp only [Act.put, List.getElem_toArray, List.getElem_cons_zero, List.getElem_cons_succ, List.setIfInBounds_toArray, List.set_cons_zero, List.set_cons_succ]
    refine AnyK.done (by kernel_rfl) ?_ _
    refine NoPanic.normal ?_
    go_wp2_with fail
    go_meet
    exact ⟨by rw [HWR.out], H7⟩
  case rest =>
  obtain ⟨rfl, HH⟩ := hcut
  clear HF HZ hnl hnd
  rename World => w8
  have hd : decide (mo < us + (nn : Int)) = true := decide_eq_true (by
    have h := HM.out
    rw [HU.out.2.1, HU.out.2.2, HPL.out, HU.out.1] at h
    exact h)
  rw [hd]
  go_wp2_with fail
  go_ret
  exact ⟨rfl, HH.out⟩
end Go.Proofs.Ytkbnoceekileiaa
