/- Shape.Wrongs, Shape.Firm: their contracts. No condition but the bounds of size. -/
import Derived.Test.YtkbnoceekileiaaWys
namespace Go.Proofs.Ytkbnoceekileiaa
open Go Go.RowKit
set_option linter.unusedVariables false
set_option linter.unusedSimpArgs false
set_option maxRecDepth 100000
theorem ways_h : ∀ (d : Nat) (w : World) (S : Nat → Prop) (s : Sh) (v : Sv) (a : Int) (vw : Value) (wy : List Int) (tgd alone : Bool) (_ : ShIn w S s v) (_ : dpSh s ≤ d) (_ : manySh s ≤ 1000000) (_ : RdV w vw wy.length 1 (intC wy)) (_ : wy.length + d ≤ 1000), Calls Try.prog 48 #[shV s v, .int .i64 a, vw, .bool tgd, .bool alone] w (waysPost w (waysN s a (decide (wy.length = 0)) tgd alone))
  | 0, w, S, s, v, a, vw, wy, tgd, alone, h, hd, hm, hw, hl => ways_step 0 (fun e he => by omega) w S s v a vw wy tgd alone h hd hm hw hl
  | d + 1, w, S, s, v, a, vw, wy, tgd, alone, h, hd, hm, hw, hl => ways_step (d + 1) (fun e he => by
      obtain rfl : d = e := by omega
      exact ways_h d) w S s v a vw wy tgd alone h hd hm hw hl
def wrongsP (s : Sh) (a : Int) : Nat := waysN s a true true false + waysN s a true false false
set_option maxHeartbeats 200000000 in
theorem Wrongs_h {w : World} {S : Nat → Prop} {s : Sh} {v : Sv} (a : Int) (h : ShIn w S s v) (hdp : dpSh s ≤ 1000) (hmn : manySh s ≤ 1000000) : Calls Try.prog 22 #[shV s v, .int .i64 a] w fun e w' => e = .returned (.int .i64 (wrongsP s a : Nat)) ∧ Fr nob w w' := by
  have CX := fun (tgd : Bool) z (hz : Fr nob w z) => ways_h 1000 z S s v a (.slice none 0 0) [] tgd false (h.fr0 hz) hdp hmn (RdV_nil z 1) (by decide)
  have hn1 := waysN_le a true false s true
  have hn2 := waysN_le a false false s true
  obtain ⟨n1, e1⟩ : ∃ x, waysN s a true true false = x := ⟨_, rfl⟩
  obtain ⟨n2, e2⟩ : ∃ x, waysN s a true false false = x := ⟨_, rfl⟩
  have HN : Hid (wrongsP s a = n1 + n2) := Lib.hid (by unfold wrongsP; rw [e1, e2])
  have D1 := CX true
  have D2 := CX false
  simp only [List.length_nil, decide_true] at D1 D2
  rw [e1] at D1 hn1
  rw [e2] at D2 hn2
  have D1 := Lib.hid D1
  have D2 := Lib.hid D2
  obtain ⟨ap, cp, ak, ck, ac, cc, rfl⟩ := h.form
  obtain ⟨lf, tg, ps, ks, kids⟩ := s
  have h' := h
  unfold ShIn at h'
  obtain ⟨r1, r2, cs, hcl, r3, r4⟩ := h'
  dsimp only [Sh.ps, Sh.ks, Sh.kids] at r1 r2 r3
  have hm1 := r3.1.short
  have hm2 := r1.1.short
  have hm3 := r2.1.short
  unfold maxLen at hm1 hm2 hm3
  have H1 := (Heap.start w).allocF 33 #[.bool lf, .bool tg, .slice ap ps.length cp, .slice ak ks.length ck, .slice ac kids.length cc]
  obtain ⟨b1, hb1⟩ : ∃ b, w.heap.size = b := ⟨_, rfl⟩
  obtain ⟨w1, hw1⟩ : ∃ z, w.alloc (.cells #[.bool lf, .bool tg, .slice ap ps.length cp, .slice ak ks.length ck, .slice ac kids.length cc] 33) = z := ⟨_, rfl⟩
  rw [hb1, hw1] at H1
  have B1 := H1.blk 0 rfl
  have x0 := B1.cell 0
  have x1 := B1.cell 1
  have x2 := B1.cell 2
  have x3 := B1.cell 3
  have x4 := B1.cell 4
  have HH := Lib.hid H1
  have HWW := Lib.hid (And.intro hb1 hw1)
  have hq1 : n1 ≤ 1000000 := by omega
  have hq2 : n2 ≤ 1000000 := by omega
  unfold shV at D1 D2
  dsimp only [Sh.lf, Sh.tg, Sh.ps, Sh.ks, Sh.kids] at D1 D2
  clear h r1 r2 r3 r4 hcl H1 hb1 hw1 B1 hm1 hm2 hm3 hdp hmn hn1 hn2 CX x0 x1 x2 x3 x4
  go_enter Try.func22, Try.ntmps22
  unfold shV
  dsimp only [Sh.lf, Sh.tg, Sh.ps, Sh.ks, Sh.kids]
  go_upto_region 1 with fail
  rw [HWW.out.1, HWW.out.2]
  clear HWW
  have HF : Hid (∀ z, (∃ l, Hid (Heap w z (l ++ ([blkP b1 33 #[.bool lf, .bool tg, .slice ap ps.length cp, .slice ak ks.length ck, .slice ac kids.length cc]])))) → World.cell? z ⟨b1, 0, none⟩ = some (.bool lf) ∧ World.cell? z ⟨b1, 1, none⟩ = some (.bool tg) ∧ World.cell? z ⟨b1, 2, none⟩ = some (.slice ap ps.length cp) ∧ World.cell? z ⟨b1, 3, none⟩ = some (.slice ak ks.length ck) ∧ World.cell? z ⟨b1, 4, none⟩ = some (.slice ac kids.length cc)) := Lib.hid (fun z ⟨l, hz⟩ => by
    have X := (Heap.swapF hz.out).blk 0 (b := b1) (t := 33) (c := #[.bool lf, .bool tg, .slice ap ps.length cp, .slice ak ks.length ck, .slice ac kids.length cc]) rfl
    exact ⟨X.cell 0, X.cell 1, X.cell 2, X.cell 3, X.cell 4⟩)
  have HZ : Hid (Heap w (World.drew w1) ([] ++ ([blkP b1 33 #[.bool lf, .bool tg, .slice ap ps.length cp, .slice ak ks.length ck, .slice ac kids.length cc]]))) := Lib.hid HH.out.drew
  refine wp_region_noPanic ?_
  refine AnyK.start (ks := []) (S := fun w' => ∃ l, Hid (Heap w w' (l ++ ([blkP b1 33 #[.bool lf, .bool tg, .slice ap ps.length cp, .slice ak ks.length ck, .slice ac kids.length cc]])))) (by kernel_rfl) (by exact ⟨[], HZ⟩) (fun _ => ?_)
  refine AnyK.take (i := 0) (v := ?_) rfl (by kernel_rfl) (by kernel_rfl) (by kernel_rfl) (by kernel_rfl) (fun _ _ _ h => h) (Or.inl ⟨by kernel_rfl, ?_⟩) (by exact ⟨[], HZ⟩) ?_
  rotate_left
  focus
    intro w9 hSw
    have hSw := HF.out w9 hSw
    go_simp
    try with_reducible rfl
  try simp only [Act.put, List.getElem_toArray, List.getElem_cons_zero, List.getElem_cons_succ, List.setIfInBounds_toArray, List.set_cons_zero, List.set_cons_succ]
  refine AnyK.take (i := 1) (v := ?_) rfl (by kernel_rfl) (by kernel_rfl) (by kernel_rfl) (by kernel_rfl) (fun _ _ _ h => h) (Or.inl ⟨by kernel_rfl, ?_⟩) (by exact ⟨[], HZ⟩) ?_
  rotate_left
  focus
    intro w9 hSw
    have hSw := HF.out w9 hSw
    go_simp
    try with_reducible rfl
  try simp only [Act.put, List.getElem_toArray, List.getElem_cons_zero, List.getElem_cons_succ, List.setIfInBounds_toArray, List.set_cons_zero, List.set_cons_succ]
  refine AnyK.take (i := 4) (v := ?_) rfl (by kernel_rfl) (by kernel_rfl) (by kernel_rfl) (by kernel_rfl) (fun _ _ _ h => h) (Or.inl ⟨by kernel_rfl, ?_⟩) (by exact ⟨[], HZ⟩) ?_
  rotate_left
  focus
    intro w9 hSw
    have hSw := HF.out w9 hSw
    go_simp
    try with_reducible rfl
  try simp only [Act.put, List.getElem_toArray, List.getElem_cons_zero, List.getElem_cons_succ, List.setIfInBounds_toArray, List.set_cons_zero, List.set_cons_succ]
  refine AnyK.take (i := 5) (v := ?_) rfl (by kernel_rfl) (by kernel_rfl) (by kernel_rfl) (by kernel_rfl) (fun _ _ _ h => h) (Or.inl ⟨by kernel_rfl, ?_⟩) (by exact ⟨[], HZ⟩) ?_
  rotate_left
  focus
    intro w9 hSw
    have hSw := HF.out w9 hSw
    go_simp
    try with_reducible rfl
  try simp only [Act.put, List.getElem_toArray, List.getElem_cons_zero, List.getElem_cons_succ, List.setIfInBounds_toArray, List.set_cons_zero, List.set_cons_succ]
  refine AnyK.one (i := 2) (by kernel_rfl) rfl (fun K9 hK9 => ?_)
  go_simp
  refine (D1.out _ HZ.out.fr).mono ?_
  rintro e9 w5 ⟨a5, c5, us5, rfl, _, H9⟩
  have H5 := Lib.hid (HZ.out.go H9.fr)
  clear H9 HZ
  dsimp only
  refine hK9.out _ _ (fun _ => ⟨[], H5⟩) ?_
  clear hK9 K9
  try simp only [Act.put, List.getElem_toArray, List.getElem_cons_zero, List.getElem_cons_succ, List.setIfInBounds_toArray, List.set_cons_zero, List.set_cons_succ]
  refine AnyK.take (i := 3) (v := ?_) rfl (by kernel_rfl) (by kernel_rfl) (by kernel_rfl) (by kernel_rfl) (fun _ _ _ h => h) (Or.inl ⟨by kernel_rfl, ?_⟩) (by exact ⟨[], H5⟩) ?_
  rotate_left
  focus
    intro w9 hSw
    have hSw := HF.out w9 hSw
    go_simp
    try with_reducible rfl
  try simp only [Act.put, List.getElem_toArray, List.getElem_cons_zero, List.getElem_cons_succ, List.setIfInBounds_toArray, List.set_cons_zero, List.set_cons_succ]
  refine AnyK.one (i := 6) (by kernel_rfl) rfl (fun K9 hK9 => ?_)
  go_simp
  refine (D2.out _ H5.out.fr).mono ?_
  rintro e9 w6 ⟨a6, c6, us6, rfl, _, H9⟩
  have H6 := Lib.hid (H5.out.go H9.fr)
  clear H9 H5
  dsimp only
  refine hK9.out _ _ (fun _ => ⟨[], H6⟩) ?_
  clear hK9 K9
  try simp only [Act.put, List.getElem_toArray, List.getElem_cons_zero, List.getElem_cons_succ, List.setIfInBounds_toArray, List.set_cons_zero, List.set_cons_succ]
  refine AnyK.take (i := 7) (v := ?_) rfl (by kernel_rfl) (by kernel_rfl) (by kernel_rfl) (by kernel_rfl) (fun _ _ _ h => h) (Or.inl ⟨by kernel_rfl, ?_⟩) (by exact ⟨[], H6⟩) ?_
  rotate_left
  focus
    intro w9 hSw
    have hSw := HF.out w9 hSw
    go_simp
    try with_reducible rfl
  try simp only [Act.put, List.getElem_toArray, List.getElem_cons_zero, List.getElem_cons_succ, List.setIfInBounds_toArray, List.set_cons_zero, List.set_cons_succ]
  refine AnyK.take (i := 8) (v := ?_) rfl (by kernel_rfl) (by kernel_rfl) (by kernel_rfl) (by kernel_rfl) (fun _ _ _ h => h) (Or.inl ⟨by kernel_rfl, ?_⟩) (by exact ⟨[], H6⟩) ?_
  rotate_left
  focus
    intro w9 hSw
    have hSw := HF.out w9 hSw
    go_simp
    try with_reducible rfl
  try simp only [Act.put, List.getElem_toArray, List.getElem_cons_zero, List.getElem_cons_succ, List.setIfInBounds_toArray, List.set_cons_zero, List.set_cons_succ]
  refine AnyK.take (i := 9) (v := ?_) rfl (by kernel_rfl) (by kernel_rfl) (by kernel_rfl) (by kernel_rfl) (fun _ _ _ h => h) (Or.inl ⟨by kernel_rfl, ?_⟩) (by exact ⟨[], H6⟩) ?_
  rotate_left
  focus
    intro w9 hSw
    have hSw := HF.out w9 hSw
    go_simp
    try with_reducible rfl
  try simp only [Act.put, List.getElem_toArray, List.getElem_cons_zero, List.getElem_cons_succ, List.setIfInBounds_toArray, List.set_cons_zero, List.set_cons_succ]
  refine AnyK.done (by kernel_rfl) ?_ _
  refine NoPanic.normal ?_
  go_wp2_with fail
  go_ret
  refine ⟨?_, H6.out.fr⟩
  rw [HN.out]
  simp
  rw [IntKind.wrap_i64]
  omega
theorem Firm_h {w : World} {S : Nat → Prop} {s : Sh} {v : Sv} (h : ShIn w S s v) (hdp : dpSh s ≤ 1000) (hsz : SzSh 100000 s) : Calls Try.prog 20 #[shV s v] w fun e w' => e = .returned (.bool ((levP s).2 && placedP s false 0 false 0)) ∧ Fr nob w w' := by
  have CL := fun z (hz : Fr nob w z) => levels_h 1000 (by decide) z S s v (h.fr0 hz) hdp
  have CP := fun z (hz : Fr nob w z) => placed_h 1000 (by decide) z S s v false 0 false 0 (h.fr0 hz) hdp hsz
  obtain ⟨ln, e1⟩ : ∃ x, (levP s).1 = x := ⟨_, rfl⟩
  obtain ⟨lo, e2⟩ : ∃ x, (levP s).2 = x := ⟨_, rfl⟩
  obtain ⟨po, e3⟩ : ∃ x, placedP s false 0 false 0 = x := ⟨_, rfl⟩
  unfold levPost at CL
  unfold plcPost at CP
  rw [e1, e2] at CL
  rw [e3] at CP
  rw [e2, e3]
  have CL := Lib.hid CL
  have CP := Lib.hid CP
  obtain ⟨ap, cp, ak, ck, ac, cc, rfl⟩ := h.form
  obtain ⟨lf, tg, ps, ks, kids⟩ := s
  have h' := h
  unfold ShIn at h'
  obtain ⟨r1, r2, cs, hcl, r3, r4⟩ := h'
  dsimp only [Sh.ps, Sh.ks, Sh.kids] at r1 r2 r3
  have hm1 := r3.1.short
  have hm2 := r1.1.short
  have hm3 := r2.1.short
  unfold maxLen at hm1 hm2 hm3
  have H1 := (Heap.start w).allocF 33 #[.bool lf, .bool tg, .slice ap ps.length cp, .slice ak ks.length ck, .slice ac kids.length cc]
  obtain ⟨b1, hb1⟩ : ∃ b, w.heap.size = b := ⟨_, rfl⟩
  obtain ⟨w1, hw1⟩ : ∃ z, w.alloc (.cells #[.bool lf, .bool tg, .slice ap ps.length cp, .slice ak ks.length ck, .slice ac kids.length cc] 33) = z := ⟨_, rfl⟩
  rw [hb1, hw1] at H1
  have B1 := H1.blk 0 rfl
  have x0 := B1.cell 0
  have x1 := B1.cell 1
  have x2 := B1.cell 2
  have x3 := B1.cell 3
  have x4 := B1.cell 4
  have HH := Lib.hid H1
  have HWW := Lib.hid (And.intro hb1 hw1)
  unfold shV at CL CP
  unfold bdV at CP
  dsimp only [Sh.lf, Sh.tg, Sh.ps, Sh.ks, Sh.kids] at CL CP
  clear h r1 r2 r3 r4 hcl H1 hb1 hw1 B1 hm1 hm2 hm3 hdp hsz e1 e2 e3
  go_enter Try.func20, Try.ntmps20
  unfold shV
  dsimp only [Sh.lf, Sh.tg, Sh.ps, Sh.ks, Sh.kids]
  go_upto_region 1 with fail
  rw [HWW.out.1, HWW.out.2]
  clear HWW
  go_wp2_with fail
  refine (CL.out _ HH.out.fr).mono ?_
  rintro e w2 ⟨rfl, F2⟩
  have HX := Lib.hid (HH.out.go F2)
  clear F2 x0 x1 x2 x3 x4
  have X := HX.out.blk 0 (b := b1) (t := 33) (c := #[.bool lf, .bool tg, .slice ap ps.length cp, .slice ak ks.length ck, .slice ac kids.length cc]) rfl
  have x0 := X.cell 0
  have x1 := X.cell 1
  have x2 := X.cell 2
  have x3 := X.cell 3
  have x4 := X.cell 4
  clear X
  cases lo with
  | false =>
    go_wp2_with fail
    go_ret
    exact ⟨rfl, HX.out.fr⟩
  | true =>
    go_wp2_with fail
    refine (CP.out _ HX.out.fr).mono ?_
    rintro e w3 ⟨rfl, F3⟩
    have HY := Lib.hid (HX.out.go F3)
    clear F3
    go_wp2_with fail
    go_ret
    exact ⟨rfl, HY.out.fr⟩
end Go.Proofs.Ytkbnoceekileiaa
