/- Chapter 20's Awake and fresh, chapter 11's Read, chapter 2's Rises: their contracts. No condition but the bounds of size. -/
import Derived.Test.YtkbnoceekileiaaLpl
import Derived.Test.YtkbnoceekileiaaRdt
import Derived.Test.YtkbnoceekileiaaAll
namespace Go.Proofs.Ytkbnoceekileiaa
open Go Go.RowKit
set_option linter.unusedVariables false
set_option linter.unusedSimpArgs false
set_option maxRecDepth 100000
theorem Wide_calls (b : Int) (w : World) (hb : 0 ≤ b ∧ b ≤ 255) : Calls Try.prog 13 #[.int .u8 b] w fun e w' => e = .returned (.int .i64 (3 + b % 6)) ∧ w' = w := by
  obtain ⟨b0, b1⟩ := hb
  have h1 : b.tmod 6 = b % 6 := Int.tmod_eq_emod_of_nonneg b0
  go_enter Try.func13, Try.ntmps13
  go_wp2_with fail
  go_ret
  refine ⟨?_, rfl⟩
  simp only [Array.getD_eq_getD_getElem?, Ending.returned.injEq, Value.int.injEq]
  simp
theorem fresh_h {w0 w : World} {l : List Piece} (h : Heap w0 w l) (b n : Int) (hb : 0 ≤ b ∧ b ≤ 255) (hn : 2 ≤ n ∧ n ≤ 65536) : Calls Try.prog 31 #[.int .u8 b, .int .i64 n] w fun e w' => ∃ c : Wc, c.a = 2 ∧ c.b = 3 + b % 6 ∧ c.entry = entryR ∧ e = .returned (.tuple #[.pointer (some ⟨c.wb, 0, none⟩), .int .i64 (3 + b % 6)]) ∧ Heap w0 w' (wdL c (wd0 1 n 9) ++ l) := by
  obtain ⟨wd, hwd⟩ : ∃ x, 3 + b % 6 = x := ⟨_, rfl⟩
  have CW := Lib.hid (Wide_calls b w hb)
  have CN := Lib.hid (New_wd h 2 wd 1 n 9 ⟨by decide, by decide⟩ (by omega) ⟨by decide, by decide⟩ hn ⟨by decide, by decide⟩)
  rw [hwd] at CW
  have HWD := Lib.hid hwd
  clear h hwd hb
  go_enter Try.func31, Try.ntmps31
  go_wp2_with fail
  refine CW.out.mono ?_
  rintro e w1 ⟨rfl, hw⟩
  have hw := hw.symm
  subst hw
  go_wp2_with fail
  refine CN.out.mono ?_
  rintro e w2 ⟨c, ha, hb, hc, rfl, H2⟩
  have HC := Lib.hid (And.intro ha (And.intro hb (And.intro hc H2)))
  clear ha hb hc H2 CN CW
  go_wp2_with fail
  refine bodyPost_ret (v := .tuple #[.pointer (some ⟨c.wb, 0, none⟩), .int .i64 wd]) (by simp [results, Try.results31, go_sem]) rfl ?_
  exact ⟨c, HC.out.1, HC.out.2.1.trans HWD.out.symm, HC.out.2.2.1, by rw [HWD.out], Heap.swapF HC.out.2.2.2⟩
theorem Awake20_calls (w : World) : Calls Try.prog 30 #[] w fun e w' => e = .returned (.bool true) ∧ Fr nob w w' := by
  have CP := Lib.hid (Parts_h (Heap.start w) 7 3 (by decide) (by decide))
  go_enter Try.func30, Try.ntmps30
  go_wp2_with fail
  refine CP.out.mono ?_
  rintro e w1 ⟨a, c, rfl, H1⟩
  rw [show partK 7 3 = 3 from rfl] at H1 ⊢
  obtain ⟨g, rfl, _, hat⟩ := (H1.row 0 rfl).rdv.at (by decide)
  have x0 : World.cell? w1 g = some (.int .i64 3) := by have := hat 0 (.int .i64 3) rfl; rwa [add_zero'] at this
  have x2 : World.cell? w1 ⟨g.block, g.off + 2, none⟩ = some (.int .i64 2) := by have := hat 2 (.int .i64 2) rfl; simpa [Addr.add] using this
  have N1 := Lib.hid (fun z (hz : Heap w z []) => Nodes_h hz 7 3 (by decide) (by decide))
  have N2 := Lib.hid (fun z (hz : Heap w z []) => Nodes_h hz 0 3 (by decide) (by decide))
  have HH := Lib.hid (H1.first (l := []))
  clear CP H1 hat
  go_wp2_with fail
  refine (N1.out _ HH.out).mono ?_
  rintro e w2 ⟨rfl, H2⟩
  rw [show nodesN 7 3 = 4 from by decide]
  have HH := Lib.hid H2
  clear H2 x0 x2
  go_wp2_with fail
  refine (N2.out _ HH.out).mono ?_
  rintro e w3 ⟨rfl, H3⟩
  rw [show nodesN 0 3 = 1 from rfl]
  have HH := Lib.hid H3
  clear H3
  go_wp2_with fail
  go_ret
  exact ⟨rfl, HH.out.fr⟩
theorem Load_nil (v : Value) (w : World) : Calls Try.prog 29 #[.pointer none, v] w fun e w' => e = .returned (.int .i64 1) ∧ w' = w := by
  go_enter Try.func29, Try.ntmps29
  go_wp2_with fail
  go_ret
  exact ⟨rfl, rfl⟩
theorem Rises2_calls (v : Value) (ps : List (Int × Int)) (w : World) (R : RdV w v ps.length 2 (pairC ps)) (b : Bool) (hb : b = true ↔ RisesP ps) : Calls Try.prog 32 #[v] w fun e w' => e = .returned (.bool b) ∧ Fr nob w w' := by
  have hsh := R.short
  unfold maxLen at hsh
  obtain ⟨a, c, rfl⟩ := R.len
  have HR := Lib.hid R
  have HB := Lib.hid hb
  clear R hb
  go_enter Try.func32, Try.ntmps32
  have HF : Hid (Fr nob w w ∧ ∀ i j, i < 0 → j < i → key ps j < key ps i) := Lib.hid ⟨Fr.refl _ _, fun i j hi _ => absurd hi (by omega)⟩
  go_wp2_with fail
  go_loopw [7] (fun q wr => ∃ i : Nat, q = .int .i64 (i : Nat) ∧ i ≤ ps.length ∧ Hid (Fr nob w wr ∧ ∀ i2 j, i2 < i → j < i2 → key ps j < key ps i2)) (fun q _ => ps.length - (intOf q).toNat)
  case atStart => exact ⟨0, rfl, Nat.zero_le _, HF⟩
  case round =>
    clear HF
    obtain ⟨i, rfl, hi, HF⟩ := hrel
    by_cases hlt : i < ps.length
    · have HLT := Lib.hid hlt
      have HG : Hid (Fr nob w wr ∧ ∀ j, j < 0 → key ps j < key ps i) := Lib.hid ⟨HF.out.1, fun j hj => absurd hj (by omega)⟩
      go_wp2_with fail
      rename World => w8
      go_loopw [11] (fun q wr => ∃ j : Nat, q = .int .i64 (j : Nat) ∧ j ≤ i ∧ Hid (Fr nob w wr ∧ ∀ j2, j2 < j → key ps j2 < key ps i)) (fun q _ => i - (intOf q).toNat)
      case atStart => exact ⟨0, rfl, Nat.zero_le _, HG⟩
      case round =>
        clear HG
        obtain ⟨j, rfl, hj, HG⟩ := hrel
        by_cases hlj : j < i
        · have HLJ := Lib.hid hlj
          obtain ⟨x, hx⟩ : ∃ x, ps[i]? = some x := ⟨_, List.getElem?_eq_getElem (by omega)⟩
          obtain ⟨y, hy⟩ : ∃ x, ps[j]? = some x := ⟨_, List.getElem?_eq_getElem (by omega)⟩
          have R2 := HR.out.fr HG.out.1 (fun _ _ _ x => x)
          obtain ⟨a1, rfl, _, _⟩ := R2.at (by omega)
          obtain ⟨c0, _⟩ := R2.pair hx
          obtain ⟨c1, _⟩ := R2.pair hy
          have hli : (i : Int) < (ps.length : Int) := by omega
          have hljl : (j : Int) < (ps.length : Int) := by omega
          have HX := Lib.hid (And.intro (key_is hx) (key_is hy))
          obtain ⟨x1, x2⟩ := x
          obtain ⟨y1, y2⟩ := y
          dsimp only at c0 c1
          clear R2 hx hy
          go_upto_region 7 with fail
          by_cases hxy : y1 < x1
          · have hge : decide (x1 ≤ y1) = false := decide_eq_false (by omega)
            have HXY := Lib.hid hxy
            clear hxy
            go_quiet (fail)
            have HN : Hid (∀ (nq : Nat), Fr nob w (wr.drewN nq) ∧ ∀ j2, j2 < j + 1 → key ps j2 < key ps i) := Lib.hid (fun nq => ⟨HG.out.1.drewN nq, fun j2 hj2 => by
              rcases (by omega : j2 < j ∨ j2 = j) with h | rfl
              · exact HG.out.2 j2 h
              · rw [HX.out.1, HX.out.2]; exact HXY.out⟩)
            clear HG
            go_wp2_with fail
            exact ⟨⟨j + 1, by go_num, by have := HLJ.out; omega, Lib.hid (HN.out _)⟩, by have := HLJ.out; simp [intOf]; omega⟩
          · have hge : decide (x1 ≤ y1) = true := decide_eq_true (by omega)
            have HXY := Lib.hid hxy
            clear hxy
            go_quiet (fail)
            have HBF : Hid (b = false) := Lib.hid (by
              cases b with
              | false => rfl
              | true =>
                have h1 := (HB.out.1 rfl).lt (i - j - 1) j (by have := HLJ.out; have := HLT.out; omega)
                rw [show j + (i - j - 1) + 1 = i by have := HLJ.out; omega, HX.out.1, HX.out.2] at h1
                exact absurd h1 HXY.out)
            go_wp2_with fail
            go_ret
            rw [HBF.out]
            exact ⟨rfl, HG.out.1.drewN _⟩
        · obtain rfl : j = i := by omega
          have HN : Hid (Fr nob w wr ∧ ∀ i2 j2, i2 < j + 1 → j2 < i2 → key ps j2 < key ps i2) := Lib.hid ⟨HG.out.1, fun i2 j2 h1 h2 => by
            rcases (by omega : i2 < j ∨ i2 = j) with h | rfl
            · exact HF.out.2 i2 j2 h h2
            · exact HG.out.2 j2 h2⟩
          clear HG HF
          go_wp2_with fail
          exact ⟨⟨j + 1, by go_num, by have := HLT.out; omega, HN⟩, by have := HLT.out; simp [intOf]; omega⟩
    · obtain rfl : i = ps.length := by omega
      have HBT : Hid (b = true) := Lib.hid (HB.out.2 (fun i hi => HF.out.2 (i + 1) i hi (by omega)))
      go_wp2_with fail
      go_ret
      rw [HBT.out]
      exact ⟨rfl, HF.out.1⟩
set_option maxHeartbeats 200000000 in
theorem Read_h {w0 w : World} {c : Wc} {s : Wd} {Z : List Piece} (h : Heap w0 w (wdL c s ++ Z)) {r : Int} {sh : Sh} {N : Nat} (hok : OkN s.ar N ∧ N ≤ 60000) (hway : wayAr c.entry 0 s.ar = (r, s.ar)) (hin : InAr s.ar sh r) (hdp : dpSh sh ≤ 40) :
    Calls Try.prog 34 #[.pointer (some ⟨c.wb, 0, none⟩)] w fun e w' => ∃ v : Sv, e = .returned (shV sh v) ∧ Heap w0 w' (shP sh v :: (wdL c s ++ Z)) := by
  have H1 := h.allocF 33 #[.bool false, .bool false, .slice none 0 0, .slice none 0 0, .slice none 0 0]
  obtain ⟨b2, hb2⟩ : ∃ b, w.heap.size = b := ⟨_, rfl⟩
  obtain ⟨w1, hw1⟩ : ∃ b, w.alloc (.cells #[.bool false, .bool false, .slice none 0 0, .slice none 0 0, .slice none 0 0] 33) = b := ⟨_, rfl⟩
  rw [hb2, hw1] at H1
  have HWW := Lib.hid (And.intro hb2 hw1)
  have HI := Lib.hid (And.intro hok (And.intro hway (And.intro hin hdp)))
  have HZ : Hid (Heap w0 w1.drew ([blkP b2 33 #[.bool false, .bool false, .slice none 0 0, .slice none 0 0, .slice none 0 0]] ++ (wdL c s ++ Z))) := Lib.hid H1.drew
  have HF : Hid (∀ z, (∃ l, Hid (Heap w0 z (l ++ (wdL c s ++ Z)))) → World.cell? z ⟨c.wb, 0, none⟩ = some (pt c.ab) ∧ World.cell? z ⟨c.wb, 5, none⟩ = some (.int .i64 c.entry)) := Lib.hid (fun z ⟨l, hz⟩ => ⟨(wb_cells (q := areP c.ab s.ar) hz.out).1, (wb_cells (q := areP c.ab s.ar) hz.out).2.2⟩)
  clear h H1 hb2 hw1 hok hway hin hdp
  go_enter Try.func34, Try.ntmps34
  go_upto_region 1 with fail
  rw [HWW.out.1, HWW.out.2]
  clear HWW
  refine wp_region_noPanic ?_
  refine AnyK.start (ks := [14]) (S := fun w' => ∃ l, Hid (Heap w0 w' (l ++ (wdL c s ++ Z)))) (by kernel_rfl) (by exact ⟨_, HZ⟩) (fun _ => ?_)
  refine AnyK.takeB (i := 0) (v := ?_) rfl (by kernel_rfl) (by kernel_rfl) (by kernel_rfl) (by kernel_rfl) (fun _ _ _ h => h) (Or.inl ⟨by kernel_rfl, ?_⟩) (by exact ⟨_, HZ⟩) ?_
  rotate_left
  focus
    intro w9 hSw
    have hSw := HF.out w9 hSw
    go_simp
    try with_reducible rfl
  try simp only [Act.put, List.getElem_toArray, List.getElem_cons_zero, List.getElem_cons_succ, List.setIfInBounds_toArray, List.set_cons_zero, List.set_cons_succ]
  refine AnyK.takeB (i := 1) (v := ?_) rfl (by kernel_rfl) (by kernel_rfl) (by kernel_rfl) (by kernel_rfl) (fun _ _ _ h => h) (Or.inl ⟨by kernel_rfl, ?_⟩) (by exact ⟨_, HZ⟩) ?_
  rotate_left
  focus
    intro w9 hSw
    have hSw := HF.out w9 hSw
    go_simp
    try with_reducible rfl
  try simp only [Act.put, List.getElem_toArray, List.getElem_cons_zero, List.getElem_cons_succ, List.setIfInBounds_toArray, List.set_cons_zero, List.set_cons_succ]
  refine AnyK.takeB (i := 2) (v := ?_) rfl (by kernel_rfl) (by kernel_rfl) (by kernel_rfl) (by kernel_rfl) (fun _ _ _ h => h) (Or.inl ⟨by kernel_rfl, ?_⟩) (by exact ⟨_, HZ⟩) ?_
  rotate_left
  focus
    intro w9 hSw
    have hSw := HF.out w9 hSw
    go_simp
    try with_reducible rfl
  try simp only [Act.put, List.getElem_toArray, List.getElem_cons_zero, List.getElem_cons_succ, List.setIfInBounds_toArray, List.set_cons_zero, List.set_cons_succ]
  refine AnyK.takeB (i := 3) (v := ?_) rfl (by kernel_rfl) (by kernel_rfl) (by kernel_rfl) (by kernel_rfl) (fun _ _ _ h => h) (Or.inl ⟨by kernel_rfl, ?_⟩) (by exact ⟨_, HZ⟩) ?_
  rotate_left
  focus
    intro w9 hSw
    have hSw := HF.out w9 hSw
    go_simp
    try with_reducible rfl
  try simp only [Act.put, List.getElem_toArray, List.getElem_cons_zero, List.getElem_cons_succ, List.setIfInBounds_toArray, List.set_cons_zero, List.set_cons_succ]
  refine AnyK.takeB (i := 4) (v := ?_) rfl (by kernel_rfl) (by kernel_rfl) (by kernel_rfl) (by kernel_rfl) (fun _ _ _ h => h) (Or.inl ⟨by kernel_rfl, ?_⟩) (by exact ⟨_, HZ⟩) ?_
  rotate_left
  focus
    intro w9 hSw
    have hSw := HF.out w9 hSw
    go_simp
    try with_reducible rfl
  try simp only [Act.put, List.getElem_toArray, List.getElem_cons_zero, List.getElem_cons_succ, List.setIfInBounds_toArray, List.set_cons_zero, List.set_cons_succ]
  refine AnyK.takeB (i := 5) (v := ?_) rfl (by kernel_rfl) (by kernel_rfl) (by kernel_rfl) (by kernel_rfl) (fun _ _ _ h => h) (Or.inl ⟨by kernel_rfl, ?_⟩) (by exact ⟨_, HZ⟩) ?_
  rotate_left
  focus
    intro w9 hSw
    have hSw := HF.out w9 hSw
    go_simp
    try with_reducible rfl
  try simp only [Act.put, List.getElem_toArray, List.getElem_cons_zero, List.getElem_cons_succ, List.setIfInBounds_toArray, List.set_cons_zero, List.set_cons_succ]
  refine AnyK.takeB (i := 6) (v := ?_) rfl (by kernel_rfl) (by kernel_rfl) (by kernel_rfl) (by kernel_rfl) (fun _ _ _ h => h) (Or.inl ⟨by kernel_rfl, ?_⟩) (by exact ⟨_, HZ⟩) ?_
  rotate_left
  focus
    intro w9 hSw
    have hSw := HF.out w9 hSw
    go_simp
    try with_reducible rfl
  try simp only [Act.put, List.getElem_toArray, List.getElem_cons_zero, List.getElem_cons_succ, List.setIfInBounds_toArray, List.set_cons_zero, List.set_cons_succ]
  refine AnyK.takeB (i := 7) (v := ?_) rfl (by kernel_rfl) (by kernel_rfl) (by kernel_rfl) (by kernel_rfl) (fun _ _ _ h => h) (Or.inl ⟨by kernel_rfl, ?_⟩) (by exact ⟨_, HZ⟩) ?_
  rotate_left
  focus
    intro w9 hSw
    have hSw := HF.out w9 hSw
    go_simp
    try with_reducible rfl
  try simp only [Act.put, List.getElem_toArray, List.getElem_cons_zero, List.getElem_cons_succ, List.setIfInBounds_toArray, List.set_cons_zero, List.set_cons_succ]
  refine AnyK.takeB (i := 8) (v := ?_) rfl (by kernel_rfl) (by kernel_rfl) (by kernel_rfl) (by kernel_rfl) (fun _ _ _ h => h) (Or.inl ⟨by kernel_rfl, ?_⟩) (by exact ⟨_, HZ⟩) ?_
  rotate_left
  focus
    intro w9 hSw
    have hSw := HF.out w9 hSw
    go_simp
    try with_reducible rfl
  try simp only [Act.put, List.getElem_toArray, List.getElem_cons_zero, List.getElem_cons_succ, List.setIfInBounds_toArray, List.set_cons_zero, List.set_cons_succ]
  refine AnyK.takeB (i := 9) (v := ?_) rfl (by kernel_rfl) (by kernel_rfl) (by kernel_rfl) (by kernel_rfl) (fun _ _ _ h => h) (Or.inl ⟨by kernel_rfl, ?_⟩) (by exact ⟨_, HZ⟩) ?_
  rotate_left
  focus
    intro w9 hSw
    have hSw := HF.out w9 hSw
    go_simp
    try with_reducible rfl
  try simp only [Act.put, List.getElem_toArray, List.getElem_cons_zero, List.getElem_cons_succ, List.setIfInBounds_toArray, List.set_cons_zero, List.set_cons_succ]
  refine AnyK.takeB (i := 10) (v := ?_) rfl (by kernel_rfl) (by kernel_rfl) (by kernel_rfl) (by kernel_rfl) (fun _ _ _ h => h) (Or.inl ⟨by kernel_rfl, ?_⟩) (by exact ⟨_, HZ⟩) ?_
  rotate_left
  focus
    intro w9 hSw
    have hSw := HF.out w9 hSw
    go_simp
    try with_reducible rfl
  try simp only [Act.put, List.getElem_toArray, List.getElem_cons_zero, List.getElem_cons_succ, List.setIfInBounds_toArray, List.set_cons_zero, List.set_cons_succ]
  refine AnyK.takeB (i := 11) (v := ?_) rfl (by kernel_rfl) (by kernel_rfl) (by kernel_rfl) (by kernel_rfl) (fun _ _ _ h => h) (Or.inl ⟨by kernel_rfl, ?_⟩) (by exact ⟨_, HZ⟩) ?_
  rotate_left
  focus
    intro w9 hSw
    have hSw := HF.out w9 hSw
    go_simp
    try with_reducible rfl
  try simp only [Act.put, List.getElem_toArray, List.getElem_cons_zero, List.getElem_cons_succ, List.setIfInBounds_toArray, List.set_cons_zero, List.set_cons_succ]
  refine AnyK.one (i := 12) (by kernel_rfl) rfl (fun K9 hK9 => ?_)
  go_simp
  refine (Way_h HZ.out 2 rfl (HI.out.1.1.ok HI.out.1.2) c.entry 0).mono ?_
  rintro e w5 ⟨rfl, H9⟩
  rw [HI.out.2.1]
  rw [HI.out.2.1] at H9
  have H9 : Heap w0 w5 ([blkP b2 33 #[.bool false, .bool false, .slice none 0 0, .slice none 0 0, .slice none 0 0]] ++ (wdL c s ++ Z)) := H9
  have H5 := Lib.hid H9
  clear H9 HZ
  dsimp only
  refine hK9.out _ _ (fun _ => ⟨_, H5⟩) ?_
  clear hK9 K9
  try simp only [Act.put, List.getElem_toArray, List.getElem_cons_zero, List.getElem_cons_succ, List.setIfInBounds_toArray, List.set_cons_zero, List.set_cons_succ]
  refine AnyK.one (i := 13) (by kernel_rfl) rfl (fun K9 hK9 => ?_)
  go_simp
  refine (read_h 40 (by decide) H5.out 2 rfl N HI.out.1 sh r HI.out.2.2.1 HI.out.2.2.2).mono ?_
  rintro e w6 ⟨v9, rfl, H9⟩
  obtain ⟨k1, k2, k3, k4, k5, k6, rfl⟩ := H9.shForm 0 rfl
  dsimp only [shV]
  have H6 : Hid (Heap w0 w6 ([shP sh ⟨.slice k1 sh.ps.length k2, .slice k3 sh.ks.length k4, .slice k5 sh.kids.length k6⟩, blkP b2 33 #[.bool false, .bool false, .slice none 0 0, .slice none 0 0, .slice none 0 0]] ++ (wdL c s ++ Z))) := Lib.hid H9
  clear H9 H5
  refine hK9.out _ _ (fun _ => ⟨_, H6⟩) ?_
  clear hK9 K9
  try simp only [Act.put, List.getElem_toArray, List.getElem_cons_zero, List.getElem_cons_succ, List.setIfInBounds_toArray, List.set_cons_zero, List.set_cons_succ]
  have B6 := H6.out.blk 1 (b := b2) (t := 33) (c := #[.bool false, .bool false, .slice none 0 0, .slice none 0 0, .slice none 0 0]) rfl
  have o0 := B6.cell 0
  have o1 := B6.cell 1
  have o2 := B6.cell 2
  have o3 := B6.cell 3
  have o4 := B6.cell 4
  have f0 := B6.froz 0
  have f1 := B6.froz 1
  have f2 := B6.froz 2
  have f3 := B6.froz 3
  have f4 := B6.froz 4
  have H8 := Lib.hid (((((H6.out.setCell 1 rfl 0 (.bool sh.lf)).setCell 1 rfl 1 (.bool sh.tg)).setCell 1 rfl 2 (.slice k1 sh.ps.length k2)).setCell 1 rfl 3 (.slice k3 sh.ks.length k4)).setCell 1 rfl 4 (.slice k5 sh.kids.length k6))
  clear B6
  refine AnyK.one (i := 14) (by kernel_rfl) rfl (fun K9 hK9 => ?_)
  go_simp
  refine hK9.out _ _ (fun h => absurd (by decide) h) ?_
  clear hK9 K9 o0 o1 o2 o3 o4 f0 f1 f2 f3 f4 H6
  try simp only [Act.put, List.getElem_toArray, List.getElem_cons_zero, List.getElem_cons_succ, List.setIfInBounds_toArray, List.set_cons_zero, List.set_cons_succ]
  refine AnyK.done (by kernel_rfl) ?_ _
  refine NoPanic.normal ?_
  have BX := H8.out.blk 1 (b := b2) (t := 33) (c := #[.bool sh.lf, .bool sh.tg, .slice k1 sh.ps.length k2, .slice k3 sh.ks.length k4, .slice k5 sh.kids.length k6]) rfl
  have p0 := BX.cell 0
  have p1 := BX.cell 1
  have p2 := BX.cell 2
  have p3 := BX.cell 3
  have p4 := BX.cell 4
  clear BX HF
  go_wp2_with fail
  refine bodyPost_ret (v := .agg #[.bool sh.lf, .bool sh.tg, .slice k1 sh.ps.length k2, .slice k3 sh.ks.length k4, .slice k5 sh.kids.length k6]) (by simp [results, Try.results34, go_sem, p0, p1, p2, p3, p4]) rfl ?_
  exact ⟨⟨.slice k1 sh.ps.length k2, .slice k3 sh.ks.length k4, .slice k5 sh.kids.length k6⟩, rfl, Heap.mid (l := [shP sh ⟨.slice k1 sh.ps.length k2, .slice k3 sh.ks.length k4, .slice k5 sh.kids.length k6⟩]) (m := [blkP b2 33 #[.bool sh.lf, .bool sh.tg, .slice k1 sh.ps.length k2, .slice k3 sh.ks.length k4, .slice k5 sh.kids.length k6]]) H8.out⟩
end Go.Proofs.Ytkbnoceekileiaa
