/- boscagelaw11.Same of a tree and the same tree elsewhere: true. No condition but the bounds of size. -/
import Derived.Test.YtkbnoceekileiaaAll
import Derived.Deep.DeepCutAuto
import Derived.Deep.CutRange
namespace Go.Proofs.Ytkbnoceekileiaa
open Go Go.RowKit
set_option linter.unusedVariables false
set_option linter.unusedSimpArgs false
set_option maxRecDepth 100000
def samePost (w : World) (e : Ending) (w' : World) : Prop := e = .returned (.bool true) ∧ Fr nob w w'
set_option maxHeartbeats 200000000 in
theorem Same11_step (d : Nat) (IH : ∀ e, d = e + 1 → ∀ (w : World) (S1 S2 : Nat → Prop) (s : Sh) (v1 v2 : Sv) (_ : ShIn w S1 s v1) (_ : ShIn w S2 s v2) (_ : dpSh s ≤ e), Calls Try.prog 38 #[shV s v1, shV s v2] w (samePost w))
    (w : World) (S1 S2 : Nat → Prop) (s : Sh) (v1 v2 : Sv) (h1 : ShIn w S1 s v1) (h2 : ShIn w S2 s v2) (hdp : dpSh s ≤ d) : Calls Try.prog 38 #[shV s v1, shV s v2] w (samePost w) := by
  obtain ⟨ap, cp, ak, ck, ac, cc, rfl⟩ := h1.form
  obtain ⟨bp, dp, bk, dk, bc, dc, rfl⟩ := h2.form
  obtain ⟨lf, tg, ps, ks, kids⟩ := s
  have h1' := h1
  have h2' := h2
  unfold ShIn at h1' h2'
  obtain ⟨r1, r2, cs, hcl, r3, r4⟩ := h1'
  obtain ⟨q1, q2, ct, hcl2, q3, q4⟩ := h2'
  dsimp only [Sh.ps, Sh.ks, Sh.kids] at r1 r2 r3 q1 q2 q3
  have hm1 := r3.1.short
  have hm2 := r2.1.short
  unfold maxLen at hm1 hm2
  have HIH := Lib.hid @IH
  have HR := Lib.hid (And.intro r3 (And.intro r4 (And.intro hcl hdp)))
  have HQ := Lib.hid (And.intro q3 (And.intro q4 hcl2))
  have HP := Lib.hid (And.intro r1 (And.intro q1 (And.intro r2 q2)))
  have H1 := ((Heap.start w).allocF 33 #[.bool lf, .bool tg, .slice ap ps.length cp, .slice ak ks.length ck, .slice ac kids.length cc]).allocF 33 #[.bool lf, .bool tg, .slice bp ps.length dp, .slice bk ks.length dk, .slice bc kids.length dc]
  obtain ⟨b1, hb1⟩ : ∃ b, w.heap.size = b := ⟨_, rfl⟩
  obtain ⟨w1, hw1⟩ : ∃ z, w.alloc (.cells #[.bool lf, .bool tg, .slice ap ps.length cp, .slice ak ks.length ck, .slice ac kids.length cc] 33) = z := ⟨_, rfl⟩
  rw [hb1, hw1] at H1
  obtain ⟨b2, hb2⟩ : ∃ b, w1.heap.size = b := ⟨_, rfl⟩
  obtain ⟨w2, hw2⟩ : ∃ z, w1.alloc (.cells #[.bool lf, .bool tg, .slice bp ps.length dp, .slice bk ks.length dk, .slice bc kids.length dc] 33) = z := ⟨_, rfl⟩
  rw [hb2, hw2] at H1
  have HH := Lib.hid H1
  have BX := Lib.hid (fun z (l : List Piece) (hz : Heap w z (l ++ [blkP b2 33 #[.bool lf, .bool tg, .slice bp ps.length dp, .slice bk ks.length dk, .slice bc kids.length dc], blkP b1 33 #[.bool lf, .bool tg, .slice ap ps.length cp, .slice ak ks.length ck, .slice ac kids.length cc]])) => And.intro ((Heap.swapF hz).blk 1 (b := b1) (t := 33) (c := #[.bool lf, .bool tg, .slice ap ps.length cp, .slice ak ks.length ck, .slice ac kids.length cc]) rfl) ((Heap.swapF hz).blk 0 (b := b2) (t := 33) (c := #[.bool lf, .bool tg, .slice bp ps.length dp, .slice bk ks.length dk, .slice bc kids.length dc]) rfl))
  have X1 := (BX.out _ [] H1).1
  have X2 := (BX.out _ [] H1).2
  have x0 := X1.cell 0
  have x1 := X1.cell 1
  have x2 := X1.cell 2
  have x3 := X1.cell 3
  have x4 := X1.cell 4
  have y0 := X2.cell 0
  have y1 := X2.cell 1
  have y2 := X2.cell 2
  have y3 := X2.cell 3
  have y4 := X2.cell 4
  have CSM := Lib.hid (SameP_calls (.slice ap ps.length cp) (.slice bp ps.length dp) ps w2 (HP.out.1.1.fr H1.fr (fun _ _ _ x => x)) (HP.out.2.1.1.fr H1.fr (fun _ _ _ x => x)))
  have hb3 : b1 + 1 = b2 := by rw [← hb2, ← hw1, ← hb1]; simp
  have HWW := Lib.hid (And.intro hb1 (And.intro hw1 (And.intro hb3 hw2)))
  clear h1 h2 r1 r2 r3 r4 q1 q2 q3 q4 hcl hcl2 IH H1 hb1 hw1 hb2 hb3 hw2 hdp X1 X2
  go_enter Try.func38, Try.ntmps38
  unfold shV
  dsimp only [Sh.lf, Sh.tg, Sh.ps, Sh.ks, Sh.kids]
  go_upto_region 1 with fail
  rw [HWW.out.1, HWW.out.2.2.1, HWW.out.2.1, HWW.out.2.2.2]
  clear HWW
  go_wp2_with fail
  refine CSM.out.mono ?_
  rintro e w3 ⟨rfl, nq, rfl⟩
  have HH := Lib.hid (HH.out.drewN nq)
  clear CSM x0 x1 x2 x3 x4 y0 y1 y2 y3 y4
  obtain ⟨w3, hw3⟩ : ∃ z, w2.drewN nq = z := ⟨_, rfl⟩
  rw [hw3] at HH ⊢
  clear hw3
  have X1 := (BX.out _ [] HH.out).1
  have X2 := (BX.out _ [] HH.out).2
  have x3 := X1.cell 3
  have y3 := X2.cell 3
  have x4 := X1.cell 4
  have y4 := X2.cell 4
  clear X1 X2
  go_wp2_with fail
  clear x3 y3 x4 y4
  go_loopw [48] (fun q wr => ∃ j : Nat, q = .int .i64 (j : Nat) ∧ j ≤ ks.length ∧ Hid (Heap w wr ([] ++ [blkP b2 33 #[.bool lf, .bool tg, .slice bp ps.length dp, .slice bk ks.length dk, .slice bc kids.length dc], blkP b1 33 #[.bool lf, .bool tg, .slice ap ps.length cp, .slice ak ks.length ck, .slice ac kids.length cc]]))) (fun q _ => ks.length - (intOf q).toNat)
  case atStart => exact ⟨0, rfl, Nat.zero_le _, HH⟩
  case round =>
  clear HH
  obtain ⟨j, rfl, hj, HH⟩ := hrel
  by_cases hlt : j < ks.length
  · have HLT := Lib.hid hlt
    obtain ⟨k, hk⟩ : ∃ x, ks[j]? = some x := ⟨_, List.getElem?_eq_getElem hlt⟩
    have X1 := (BX.out _ [] HH.out).1
    have X2 := (BX.out _ [] HH.out).2
    have x3 := X1.cell 3
    have y3 := X2.cell 3
    obtain ⟨g1, rfl, _, hat1⟩ := (HP.out.2.2.1.1.fr HH.out.fr (fun _ _ _ x => x)).at (by omega)
    obtain ⟨g2, rfl, _, hat2⟩ := (HP.out.2.2.2.1.fr HH.out.fr (fun _ _ _ x => x)).at (by omega)
    have e1 : World.cell? _ (g1.add j) = some (.int .i64 k) := hat1 j _ (by unfold intC; rw [List.getElem?_map, hk]; rfl)
    have e2 : World.cell? _ (g2.add j) = some (.int .i64 k) := hat2 j _ (by unfold intC; rw [List.getElem?_map, hk]; rfl)
    have hli : (j : Int) < (ks.length : Int) := by omega
    clear X1 X2 hat1 hat2 hk
    go_upto_region 6 with fail
    go_quiet (fail)
    have HX := Lib.hid (fun nq => HH.out.drewN nq)
    clear HH x3 y3 e1 e2
    go_wp2_with fail
    exact ⟨⟨j + 1, by go_num, by have := HLT.out; omega, Lib.hid (HX.out _)⟩, by have := HLT.out; simp [intOf]; omega⟩
  · obtain rfl : j = ks.length := by omega
    have X1 := (BX.out _ [] HH.out).1
    have x4 := X1.cell 4
    clear X1
    go_wp2_with fail
    clear x4
    go_loopw [66] (fun q wr => ∃ j : Nat, q = .int .i64 (j : Nat) ∧ j ≤ kids.length ∧ Hid (Heap w wr ([] ++ [blkP b2 33 #[.bool lf, .bool tg, .slice bp ps.length dp, .slice bk ks.length dk, .slice bc kids.length dc], blkP b1 33 #[.bool lf, .bool tg, .slice ap ps.length cp, .slice ak ks.length ck, .slice ac kids.length cc]]))) (fun q _ => kids.length - (intOf q).toNat)
    case atStart => exact ⟨0, rfl, Nat.zero_le _, HH⟩
    case round =>
    clear HH
    obtain ⟨j, rfl, hj, HH⟩ := hrel
    by_cases hlt : j < kids.length
    · have HLT := Lib.hid hlt
      have hli : (j : Int) < (kids.length : Int) := by omega
      obtain ⟨kd, hkd⟩ : ∃ x, kids[j]? = some x := ⟨_, List.getElem?_eq_getElem hlt⟩
      obtain ⟨cv, hcv⟩ : ∃ x, cs[j]? = some x := ⟨_, List.getElem?_eq_getElem (by rw [HR.out.2.2.1]; exact hlt)⟩
      have hS0 := ShsIn.get kids cs j kd cv HR.out.2.1 hkd hcv
      obtain ⟨kp1, kp2, kp3, kp4, kp5, kp6, rfl⟩ := hS0.form
      have hzip : (kids.zip cs)[j]? = some (kd, ⟨.slice kp1 kd.ps.length kp2, .slice kp3 kd.ks.length kp4, .slice kp5 kd.kids.length kp6⟩) := by rw [List.getElem?_zip_eq_some]; exact ⟨hkd, hcv⟩
      obtain ⟨cv2, hcv2⟩ : ∃ x, ct[j]? = some x := ⟨_, List.getElem?_eq_getElem (by rw [HQ.out.2.2]; exact hlt)⟩
      have hS2 := ShsIn.get kids ct j kd cv2 HQ.out.2.1 hkd hcv2
      obtain ⟨kq1, kq2, kq3, kq4, kq5, kq6, rfl⟩ := hS2.form
      have hzip2 : (kids.zip ct)[j]? = some (kd, ⟨.slice kq1 kd.ps.length kq2, .slice kq3 kd.ks.length kq4, .slice kq5 kd.kids.length kq6⟩) := by rw [List.getElem?_zip_eq_some]; exact ⟨hkd, hcv2⟩
      obtain ⟨g1, rfl, _, _⟩ := (HR.out.1.1.fr HH.out.fr (fun _ _ _ x => x)).at (by omega)
      obtain ⟨g2, rfl, _, _⟩ := (HQ.out.1.1.fr HH.out.fr (fun _ _ _ x => x)).at (by omega)
      obtain ⟨e, he, hde⟩ := dpSh_kid HR.out.2.2.2 hkd
      have HF : Hid (∀ z, (∃ l, Hid (Heap w z (l ++ ([blkP b2 33 #[.bool lf, .bool tg, .slice bp ps.length dp, .slice bk ks.length dk, .slice (some g2) kids.length dc], blkP b1 33 #[.bool lf, .bool tg, .slice ap ps.length cp, .slice ak ks.length ck, .slice (some g1) kids.length cc]])))) → World.cell? z ⟨b1, 4, none⟩ = some (.slice (some g1) kids.length cc) ∧ World.cell? z ⟨b2, 4, none⟩ = some (.slice (some g2) kids.length dc) ∧ (World.cell? z (g1.add (j * 5)) = some (.bool kd.lf) ∧ World.cell? z ⟨(g1.add (j * 5)).block, (g1.add (j * 5)).off + 1, none⟩ = some (.bool kd.tg) ∧ World.cell? z ⟨(g1.add (j * 5)).block, (g1.add (j * 5)).off + 2, none⟩ = some (.slice kp1 kd.ps.length kp2) ∧ World.cell? z ⟨(g1.add (j * 5)).block, (g1.add (j * 5)).off + 3, none⟩ = some (.slice kp3 kd.ks.length kp4) ∧ World.cell? z ⟨(g1.add (j * 5)).block, (g1.add (j * 5)).off + 4, none⟩ = some (.slice kp5 kd.kids.length kp6)) ∧
        (World.cell? z (g2.add (j * 5)) = some (.bool kd.lf) ∧ World.cell? z ⟨(g2.add (j * 5)).block, (g2.add (j * 5)).off + 1, none⟩ = some (.bool kd.tg) ∧ World.cell? z ⟨(g2.add (j * 5)).block, (g2.add (j * 5)).off + 2, none⟩ = some (.slice kq1 kd.ps.length kq2) ∧ World.cell? z ⟨(g2.add (j * 5)).block, (g2.add (j * 5)).off + 3, none⟩ = some (.slice kq3 kd.ks.length kq4) ∧ World.cell? z ⟨(g2.add (j * 5)).block, (g2.add (j * 5)).off + 4, none⟩ = some (.slice kq5 kd.kids.length kq6))) := Lib.hid (fun z ⟨l, hz⟩ => by
        obtain ⟨X1, X2⟩ := BX.out _ l hz.out
        refine ⟨X1.cell 4, X2.cell 4, ?_, ?_⟩
        · exact (HR.out.1.1.fr hz.out.fr (fun _ _ _ x => x)).five hzip hlt
        · exact (HQ.out.1.1.fr hz.out.fr (fun _ _ _ x => x)).five hzip2 hlt)
      have CA := Lib.hid (fun z (hz : Heap w z ([] ++ [blkP b2 33 #[.bool lf, .bool tg, .slice bp ps.length dp, .slice bk ks.length dk, .slice (some g2) kids.length dc], blkP b1 33 #[.bool lf, .bool tg, .slice ap ps.length cp, .slice ak ks.length ck, .slice (some g1) kids.length cc]])) => HIH.out e he z S1 S2 kd _ _ (hS0.fr0 hz.fr) (hS2.fr0 hz.fr) hde)
      clear hkd hcv hcv2 hS0 hS2 hzip hzip2 he hde hlt
      go_upto_region 12 with fail
      have HZ := Lib.hid HH.out.drew
      clear HH
      go_cut [80] from 69 to 80 (fun s80 wx => s80 = .bool false ∧ Hid (Heap w wx ([] ++ [blkP b2 33 #[.bool lf, .bool tg, .slice bp ps.length dp, .slice bk ks.length dk, .slice (some g2) kids.length dc], blkP b1 33 #[.bool lf, .bool tg, .slice ap ps.length cp, .slice ak ks.length ck, .slice (some g1) kids.length cc]])))
      case first =>
        refine wp_region_noPanic ?_
        refine AnyK.start (ks := []) (S := fun w' => ∃ l, Hid (Heap w w' (l ++ ([blkP b2 33 #[.bool lf, .bool tg, .slice bp ps.length dp, .slice bk ks.length dk, .slice (some g2) kids.length dc], blkP b1 33 #[.bool lf, .bool tg, .slice ap ps.length cp, .slice ak ks.length ck, .slice (some g1) kids.length cc]])))) (by kernel_rfl) (by exact ⟨[], HZ⟩) (fun _ => ?_)
        refine AnyK.take (i := 0) (v := ?_) rfl (by kernel_rfl) (by kernel_rfl) (by kernel_rfl) (by kernel_rfl) (fun _ _ _ h => h) (Or.inl ⟨by kernel_rfl, ?_⟩) (by exact ⟨[], HZ⟩) ?_
        rotate_left
        focus
          intro w9 hSw
          have hSw := HF.out w9 hSw
          go_simp
          try with_reducible rfl
        try simp only [Act.put, List.getElem_toArray, List.getElem_cons_zero, List.getElem_cons_succ, List.setIfInBounds_toArray, List.set_cons_zero, List.set_cons_succ]
        refine AnyK.take (i := 1) (v := ?_) rfl (by kernel_rfl) (by kernel_rfl) (by kernel_rfl) (by kernel_rfl) (fun _ _ _ h => h) (Or.inl ⟨by kernel_rfl, ?_⟩) (by exact ⟨[], HZ⟩) ?_
        rotate_left
        focus
          intro w9 hSw
          have hSw := HF.out w9 hSw
          go_simp
          try with_reducible rfl
        try simp only [Act.put, List.getElem_toArray, List.getElem_cons_zero, List.getElem_cons_succ, List.setIfInBounds_toArray, List.set_cons_zero, List.set_cons_succ]
        refine AnyK.take (i := 2) (v := ?_) rfl (by kernel_rfl) (by kernel_rfl) (by kernel_rfl) (by kernel_rfl) (fun _ _ _ h => h) (Or.inl ⟨by kernel_rfl, ?_⟩) (by exact ⟨[], HZ⟩) ?_
        rotate_left
        focus
          intro w9 hSw
          have hSw := HF.out w9 hSw
          go_simp
          try with_reducible rfl
        try simp only [Act.put, List.getElem_toArray, List.getElem_cons_zero, List.getElem_cons_succ, List.setIfInBounds_toArray, List.set_cons_zero, List.set_cons_succ]
        refine AnyK.take (i := 3) (v := ?_) rfl (by kernel_rfl) (by kernel_rfl) (by kernel_rfl) (by kernel_rfl) (fun _ _ _ h => h) (Or.inl ⟨by kernel_rfl, ?_⟩) (by exact ⟨[], HZ⟩) ?_
        rotate_left
        focus
          intro w9 hSw
          have hSw := HF.out w9 hSw
          go_simp
          try with_reducible rfl
        try simp only [Act.put, List.getElem_toArray, List.getElem_cons_zero, List.getElem_cons_succ, List.setIfInBounds_toArray, List.set_cons_zero, List.set_cons_succ]
        refine AnyK.take (i := 4) (v := ?_) rfl (by kernel_rfl) (by kernel_rfl) (by kernel_rfl) (by kernel_rfl) (fun _ _ _ h => h) (Or.inl ⟨by kernel_rfl, ?_⟩) (by exact ⟨[], HZ⟩) ?_
        rotate_left
        focus
          intro w9 hSw
          have hSw := HF.out w9 hSw
          go_simp
          try with_reducible rfl
        try simp only [Act.put, List.getElem_toArray, List.getElem_cons_zero, List.getElem_cons_succ, List.setIfInBounds_toArray, List.set_cons_zero, List.set_cons_succ]
        refine AnyK.take (i := 5) (v := ?_) rfl (by kernel_rfl) (by kernel_rfl) (by kernel_rfl) (by kernel_rfl) (fun _ _ _ h => h) (Or.inl ⟨by kernel_rfl, ?_⟩) (by exact ⟨[], HZ⟩) ?_
        rotate_left
        focus
          intro w9 hSw
          have hSw := HF.out w9 hSw
          go_simp
          try with_reducible rfl
        try simp only [Act.put, List.getElem_toArray, List.getElem_cons_zero, List.getElem_cons_succ, List.setIfInBounds_toArray, List.set_cons_zero, List.set_cons_succ]
        refine AnyK.take (i := 6) (v := ?_) rfl (by kernel_rfl) (by kernel_rfl) (by kernel_rfl) (by kernel_rfl) (fun _ _ _ h => h) (Or.inl ⟨by kernel_rfl, ?_⟩) (by exact ⟨[], HZ⟩) ?_
        rotate_left
        focus
          intro w9 hSw
          have hSw := HF.out w9 hSw
          go_simp
          try with_reducible rfl
        try simp only [Act.put, List.getElem_toArray, List.getElem_cons_zero, List.getElem_cons_succ, List.setIfInBounds_toArray, List.set_cons_zero, List.set_cons_succ]
        refine AnyK.take (i := 7) (v := ?_) rfl (by kernel_rfl) (by kernel_rfl) (by kernel_rfl) (by kernel_rfl) (fun _ _ _ h => h) (Or.inl ⟨by kernel_rfl, ?_⟩) (by exact ⟨[], HZ⟩) ?_
        rotate_left
        focus
          intro w9 hSw
          have hSw := HF.out w9 hSw
          go_simp
          try with_reducible rfl
        try simp only [Act.put, List.getElem_toArray, List.getElem_cons_zero, List.getElem_cons_succ, List.setIfInBounds_toArray, List.set_cons_zero, List.set_cons_succ]
        refine AnyK.take (i := 8) (v := ?_) rfl (by kernel_rfl) (by kernel_rfl) (by kernel_rfl) (by kernel_rfl) (fun _ _ _ h => h) (Or.inl ⟨by kernel_rfl, ?_⟩) (by exact ⟨[], HZ⟩) ?_
        rotate_left
        focus
          intro w9 hSw
          have hSw := HF.out w9 hSw
          go_simp
          try with_reducible rfl
        try simp only [Act.put, List.getElem_toArray, List.getElem_cons_zero, List.getElem_cons_succ, List.setIfInBounds_toArray, List.set_cons_zero, List.set_cons_succ]
        refine AnyK.take (i := 9) (v := ?_) rfl (by kernel_rfl) (by kernel_rfl) (by kernel_rfl) (by kernel_rfl) (fun _ _ _ h => h) (Or.inl ⟨by kernel_rfl, ?_⟩) (by exact ⟨[], HZ⟩) ?_
        rotate_left
        focus
          intro w9 hSw
          have hSw := HF.out w9 hSw
          go_simp
          try with_reducible rfl
        try simp only [Act.put, List.getElem_toArray, List.getElem_cons_zero, List.getElem_cons_succ, List.setIfInBounds_toArray, List.set_cons_zero, List.set_cons_succ]
        refine AnyK.one (i := 10) (by kernel_rfl) rfl (fun K9 hK9 => ?_)
        go_simp
        refine (CA.out _ HZ.out).mono ?_
        rintro e9 w9 ⟨rfl, F9⟩
        have H9 := Lib.hid (HZ.out.go F9)
        clear HZ F9
        dsimp only
        refine hK9.out _ _ (fun _ => ⟨[], H9⟩) ?_
        clear hK9 K9
        try simp only [Act.put, List.getElem_toArray, List.getElem_cons_zero, List.getElem_cons_succ, List.setIfInBounds_toArray, List.set_cons_zero, List.set_cons_succ]
        refine AnyK.take (i := 11) (v := ?_) rfl (by kernel_rfl) (by kernel_rfl) (by kernel_rfl) (by kernel_rfl) (fun _ _ _ h => h) (Or.inl ⟨by kernel_rfl, ?_⟩) (by exact ⟨[], H9⟩) ?_
        rotate_left
        focus
          intro w9 hSw
          have hSw := HF.out w9 hSw
          go_simp
          try with_reducible rfl
        try simp only [Act.put, List.getElem_toArray, List.getElem_cons_zero, List.getElem_cons_succ, List.setIfInBounds_toArray, List.set_cons_zero, List.set_cons_succ]
        refine AnyK.done (by kernel_rfl) ?_ _
        refine NoPanic.normal ?_
        go_wp2_with fail
        go_meet
        exact ⟨rfl, H9⟩
      case rest =>
      obtain ⟨rfl, HH⟩ := hcut
      clear HF CA HZ
      go_wp2_with fail
      exact ⟨⟨j + 1, by go_num, by have := HLT.out; omega, HH⟩, by have := HLT.out; simp [intOf]; omega⟩
    · obtain rfl : j = kids.length := by omega
      go_wp2_with fail
      go_ret
      exact ⟨rfl, HH.out.fr⟩
theorem Same11_h : ∀ (d : Nat) (w : World) (S1 S2 : Nat → Prop) (s : Sh) (v1 v2 : Sv) (_ : ShIn w S1 s v1) (_ : ShIn w S2 s v2) (_ : dpSh s ≤ d), Calls Try.prog 38 #[shV s v1, shV s v2] w (samePost w)
  | 0, w, S1, S2, s, v1, v2, h1, h2, hd => Same11_step 0 (fun e he => by omega) w S1 S2 s v1 v2 h1 h2 hd
  | d + 1, w, S1, S2, s, v1, v2, h1, h2, hd => Same11_step (d + 1) (fun e he => by
      obtain rfl : d = e := by omega
      exact Same11_h d) w S1 S2 s v1 v2 h1 h2 hd
end Go.Proofs.Ytkbnoceekileiaa
