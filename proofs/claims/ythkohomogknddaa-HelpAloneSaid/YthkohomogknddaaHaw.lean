/- Chapter 9's example. No condition. -/
import Derived.Test.YthkohomogknddaaHnw
import Derived.Test.YthkohomogknddaaHq
namespace Go.Proofs.Ythkohomogknddaa
open Go Go.RowKit
set_option linter.unusedVariables false
set_option linter.unusedSimpArgs false
set_option maxRecDepth 100000
def awW (e : Int) : Wd := { wd0 1 9 9 with rt := ⟨[⟨[e], [0], 1, 0, rootR, 77, 1, false⟩], 9⟩ }
def awZ : Wd := ⟨⟨[⟨rootNd, [], 0, false, 1, true⟩, ⟨entryNd, [77], 1, false, 1, true⟩], [], 9, 2, 0⟩, ⟨[⟨[entryR], [0], 1, 0, rootR, 77, 2, true⟩], 9⟩, ⟨0, [-1], [[]]⟩⟩
theorem aw_sol : solH 1 ⟨[entryR], [0], 1, 0, rootR, 77⟩ (awW entryR) = ([1, 0, 1, 0], true, awZ) := by rfl
theorem awW_ok : WdOk 2 (awW entryR) := by
  have h := ok_new (threads := 1) (nodes := 9) (records := 9) (by omega)
  exact ⟨h.ar, h.ep, fun e he => by simp [awW] at he; subst he; simp⟩
theorem aw_at : arAt awZ.ar entryR = some 1 := by rfl
set_option maxHeartbeats 8000000 in
theorem Awake9 (w : World) : Calls Try.prog 51 #[] w fun e w' => e = .returned (.bool true) ∧ Fr nob w w' := by
  have CS := Lib.hid (New_wd (Heap.start w) 2 3 1 9 9 (by omega) (by omega) (by omega) (by omega) (by omega))
  go_enter Try.func51, Try.ntmps51
  go_wp2_with fail
  refine CS.out.mono ?_
  rintro e w1 ⟨c, _, _, hce, rfl, H⟩
  have H1 : Heap w w1 (wdL c (wd0 1 9 9)) := H
  obtain ⟨v0, v1, v2, v3, v4, v5⟩ := wdL_cells (Z := []) (by rw [List.append_nil]; exact H1.drew)
  have HZ := Lib.hid H1.drew
  have HCE := Lib.hid hce
  clear CS H H1 hce
  go_upto_region 4 with fail
  go_cut [3, 4] (fun s3 s4 wx => s3 = .int .i64 1 ∧ s4 = .bool true ∧ Hid (Heap w wx (wdL c (awW c.entry))))
  case first =>
    have q0 : w1.drew.cell? ⟨c.wb, 1, none⟩ = some (.pointer (some ⟨c.rb, 0, none⟩)) ∧ w1.drew.cell? ⟨c.wb, 5, none⟩ = some (.int .i64 c.entry) := ⟨v1, v5⟩
    clear v0 v1 v2 v3 v4 v5
    refine wp_region_noPanic ?_
    refine AnyK.start (ks := [12, 13, 14, 15, 16, 17]) (S := fun w' => w'.cell? ⟨c.wb, 1, none⟩ = some (.pointer (some ⟨c.rb, 0, none⟩)) ∧ w'.cell? ⟨c.wb, 5, none⟩ = some (.int .i64 c.entry)) (by kernel_rfl) (by exact q0) (fun _ => ?_)
    refine AnyK.takeB (i := 0) (v := ?_) rfl (by kernel_rfl) (by kernel_rfl) (by kernel_rfl) (by kernel_rfl) (fun _ _ _ h => h) (Or.inl ⟨by rfl, ?_⟩) (by exact q0) ?_
    rotate_left
    focus
      intro w9 hSw
      try dsimp only at hSw
      go_simp
      try with_reducible rfl
    try simp only [Act.put, List.setIfInBounds_toArray, List.set_cons_zero, List.set_cons_succ]
    refine AnyK.takeB (i := 1) (v := ?_) rfl (by kernel_rfl) (by kernel_rfl) (by kernel_rfl) (by kernel_rfl) (fun _ _ _ h => h) (Or.inl ⟨by rfl, ?_⟩) (by exact q0) ?_
    rotate_left
    focus
      intro w9 hSw
      try dsimp only at hSw
      go_simp
      try with_reducible rfl
    try simp only [Act.put, List.setIfInBounds_toArray, List.set_cons_zero, List.set_cons_succ]
    refine AnyK.takeB (i := 2) (v := ?_) rfl (by kernel_rfl) (by kernel_rfl) (by kernel_rfl) (by kernel_rfl) (fun _ _ _ h => h) (Or.inl ⟨by rfl, ?_⟩) (by exact q0) ?_
    rotate_left
    focus
      intro w9 hSw
      try dsimp only at hSw
      go_simp
      try with_reducible rfl
    try simp only [Act.put, List.setIfInBounds_toArray, List.set_cons_zero, List.set_cons_succ]
    refine AnyK.takeB (i := 3) (v := ?_) rfl (by kernel_rfl) (by kernel_rfl) (by kernel_rfl) (by kernel_rfl) (fun _ _ _ h => h) (Or.inl ⟨by rfl, ?_⟩) (by exact q0) ?_
    rotate_left
    focus
      intro w9 hSw
      try dsimp only at hSw
      go_simp
      try with_reducible rfl
    try simp only [Act.put, List.setIfInBounds_toArray, List.set_cons_zero, List.set_cons_succ]
    refine AnyK.takeB (i := 4) (v := ?_) rfl (by kernel_rfl) (by kernel_rfl) (by kernel_rfl) (by kernel_rfl) (fun _ _ _ h => h) (Or.inl ⟨by rfl, ?_⟩) (by exact q0) ?_
    rotate_left
    focus
      intro w9 hSw
      try dsimp only at hSw
      go_simp
      try with_reducible rfl
    try simp only [Act.put, List.setIfInBounds_toArray, List.set_cons_zero, List.set_cons_succ]
    refine AnyK.takeB (i := 5) (v := ?_) rfl (by kernel_rfl) (by kernel_rfl) (by kernel_rfl) (by kernel_rfl) (fun _ _ _ h => h) (Or.inl ⟨by rfl, ?_⟩) (by exact q0) ?_
    rotate_left
    focus
      intro w9 hSw
      try dsimp only at hSw
      go_simp
      try with_reducible rfl
    try simp only [Act.put, List.setIfInBounds_toArray, List.set_cons_zero, List.set_cons_succ]
    refine AnyK.takeB (i := 6) (v := ?_) rfl (by kernel_rfl) (by kernel_rfl) (by kernel_rfl) (by kernel_rfl) (fun _ _ _ h => h) (Or.inl ⟨by rfl, ?_⟩) (by exact q0) ?_
    rotate_left
    focus
      intro w9 hSw
      try dsimp only at hSw
      go_simp
      try with_reducible rfl
    try simp only [Act.put, List.setIfInBounds_toArray, List.set_cons_zero, List.set_cons_succ]
    refine AnyK.takeB (i := 7) (v := ?_) rfl (by kernel_rfl) (by kernel_rfl) (by kernel_rfl) (by kernel_rfl) (fun _ _ _ h => h) (Or.inl ⟨by rfl, ?_⟩) (by exact q0) ?_
    rotate_left
    focus
      intro w9 hSw
      try dsimp only at hSw
      go_simp
      try with_reducible rfl
    try simp only [Act.put, List.setIfInBounds_toArray, List.set_cons_zero, List.set_cons_succ]
    generalize w1.drew = z0 at *
    refine AnyK.three (i := 8) (j := 9) (m := 10) (by kernel_rfl) rfl rfl rfl (fun K9 hK9 => ?_) (fun K9 hK9 => ?_) (fun K9 hK9 => ?_)
    · go_simp
      have H9 := HZ.out.alloc 29 #[.int .i64 c.entry]
      try simp only [List.append_assoc, List.cons_append, List.nil_append] at H9
      have BW := H9.blk 0 (b := c.wb) (t := 31) (c := c.cells) (by rfl)
      have qs := And.intro (BW.cell 1) (BW.cell 5)
      refine hK9.out _ _ (fun _ => qs) ?_
      clear hK9 K9 qs BW
      try simp only [Act.put, List.setIfInBounds_toArray, List.set_cons_zero, List.set_cons_succ]
      generalize hb8 : z0.heap.size = g8 at *
      generalize hx8 : z0.alloc (.cells #[.int .i64 c.entry] 29) = x8 at *
      have G0 := Lib.hid H9
      clear H9
      refine AnyK.two (i := 9) (j := 10) (by kernel_rfl) rfl rfl (fun K9 hK9 => ?_) (fun K9 hK9 => ?_)
      · go_simp
        have H9 := G0.out.alloc 2 #[.int .i64 0]
        try simp only [List.append_assoc, List.cons_append, List.nil_append] at H9
        have BW := H9.blk 0 (b := c.wb) (t := 31) (c := c.cells) (by rfl)
        have qs := And.intro (BW.cell 1) (BW.cell 5)
        refine hK9.out _ _ (fun _ => qs) ?_
        clear hK9 K9 qs BW
        try simp only [Act.put, List.setIfInBounds_toArray, List.set_cons_zero, List.set_cons_succ]
        generalize hb9 : x8.heap.size = g9 at *
        generalize hx9 : x8.alloc (.cells #[.int .i64 0] 2) = x9 at *
        have G1 := Lib.hid H9
        clear H9
        refine AnyK.one (i := 10) (by kernel_rfl) rfl (fun K9 hK9 => ?_)
        go_simp
        refine (Of_calls 0 1 _ (by omega) (by omega)).mono ?_
        rintro e y ⟨rfl, hy⟩
        have hy := hy.symm
        subst hy
        have BW := G1.out.blk 0 (b := c.wb) (t := 31) (c := c.cells) (by rfl)
        have qs := And.intro (BW.cell 1) (BW.cell 5)
        refine hK9.out _ _ (fun _ => qs) ?_
        clear hK9 K9 qs BW
        try simp only [Act.put, List.setIfInBounds_toArray, List.set_cons_zero, List.set_cons_succ]
        refine AnyK.one (i := 11) (by kernel_rfl) rfl (fun K9 hK9 => ?_)
        go_simp
        have BW := G1.out.blk 0 (b := c.wb) (t := 31) (c := c.cells) (by rfl)
        have qs := And.intro (BW.cell 1) (BW.cell 5)
        refine hK9.out _ _ (fun _ => qs) ?_
        clear hK9 K9 qs BW
        try simp only [Act.put, List.setIfInBounds_toArray, List.set_cons_zero, List.set_cons_succ]
        refine AnyK.one (i := 12) (by kernel_rfl) rfl (fun K9 hK9 => ?_)
        go_simp
        refine (Make_h G1.out 2 rfl ⟨[c.entry], [0], 1, 0, rootR, 77⟩ (.slice (some ⟨g8, 0, none⟩) 1 1) (.slice (some ⟨g9, 0, none⟩) 1 1) (RdV.block (cs := #[.int .i64 c.entry]) (t := 29) (g := g8) (m := 1) (sz := 1) (G1.out.blk 4 rfl) rfl (by decide)) (RdV.block (cs := #[.int .i64 0]) (t := 2) (g := g9) (m := 1) (sz := 1) (G1.out.blk 5 rfl) rfl (by decide)) (by simp) (by simp)).mono ?_
        rintro e y9 ⟨rfl, H9⟩
        have H9 : Heap w y9 (wdL c (awW c.entry) ++ [blkP g8 29 #[.int .i64 c.entry], blkP g9 2 #[.int .i64 0]]) := H9
        have HF := Lib.hid H9.first
        clear H9
        refine hK9.out _ _ (fun hx => absurd (by decide) hx) ?_
        clear hK9 K9
        try simp only [Act.put, List.setIfInBounds_toArray, List.set_cons_zero, List.set_cons_succ]
        refine AnyK.phase (S' := fun _ => True) (ks' := []) (by kernel_rfl) ?_
        refine AnyK.take (i := 13) (v := ?_) rfl (by kernel_rfl) (by kernel_rfl) (by kernel_rfl) (by kernel_rfl) (fun _ _ _ h => h) (Or.inl ⟨by rfl, ?_⟩) (by exact trivial) ?_
        rotate_left
        focus
          intro w9 hSw
          try dsimp only at hSw
          go_simp
          try with_reducible rfl
        try simp only [Act.put, List.setIfInBounds_toArray, List.set_cons_zero, List.set_cons_succ]
        refine AnyK.take (i := 14) (v := ?_) rfl (by kernel_rfl) (by kernel_rfl) (by kernel_rfl) (by kernel_rfl) (fun _ _ _ h => h) (Or.inl ⟨by rfl, ?_⟩) (by exact trivial) ?_
        rotate_left
        focus
          intro w9 hSw
          try dsimp only at hSw
          go_simp
          try with_reducible rfl
        try simp only [Act.put, List.setIfInBounds_toArray, List.set_cons_zero, List.set_cons_succ]
        refine AnyK.take (i := 15) (v := ?_) rfl (by kernel_rfl) (by kernel_rfl) (by kernel_rfl) (by kernel_rfl) (fun _ _ _ h => h) (Or.inl ⟨by rfl, ?_⟩) (by exact trivial) ?_
        rotate_left
        focus
          intro w9 hSw
          try dsimp only at hSw
          go_simp
          try with_reducible rfl
        try simp only [Act.put, List.setIfInBounds_toArray, List.set_cons_zero, List.set_cons_succ]
        refine AnyK.take (i := 16) (v := ?_) rfl (by kernel_rfl) (by kernel_rfl) (by kernel_rfl) (by kernel_rfl) (fun _ _ _ h => h) (Or.inl ⟨by rfl, ?_⟩) (by exact trivial) ?_
        rotate_left
        focus
          intro w9 hSw
          try dsimp only at hSw
          go_simp
          try with_reducible rfl
        try simp only [Act.put, List.setIfInBounds_toArray, List.set_cons_zero, List.set_cons_succ]
        refine AnyK.take (i := 17) (v := ?_) rfl (by kernel_rfl) (by kernel_rfl) (by kernel_rfl) (by kernel_rfl) (fun _ _ _ h => h) (Or.inl ⟨by rfl, ?_⟩) (by exact trivial) ?_
        rotate_left
        focus
          intro w9 hSw
          try dsimp only at hSw
          go_simp
          try with_reducible rfl
        try simp only [Act.put, List.setIfInBounds_toArray, List.set_cons_zero, List.set_cons_succ]
        refine AnyK.done (by kernel_rfl) ?_ _
        refine NoPanic.normal ?_
        go_wp2_with fail
        go_meet
        exact ⟨rfl, rfl, HF⟩
      · go_simp
        refine (Of_calls 0 1 _ (by omega) (by omega)).mono ?_
        rintro e y ⟨rfl, hy⟩
        have hy := hy.symm
        subst hy
        have BW := G0.out.blk 0 (b := c.wb) (t := 31) (c := c.cells) (by rfl)
        have qs := And.intro (BW.cell 1) (BW.cell 5)
        refine hK9.out _ _ (fun _ => qs) ?_
        clear hK9 K9 qs BW
        try simp only [Act.put, List.setIfInBounds_toArray, List.set_cons_zero, List.set_cons_succ]
        refine AnyK.one (i := 9) (by kernel_rfl) rfl (fun K9 hK9 => ?_)
        go_simp
        have H9 := G0.out.alloc 2 #[.int .i64 0]
        try simp only [List.append_assoc, List.cons_append, List.nil_append] at H9
        have BW := H9.blk 0 (b := c.wb) (t := 31) (c := c.cells) (by rfl)
        have qs := And.intro (BW.cell 1) (BW.cell 5)
        refine hK9.out _ _ (fun _ => qs) ?_
        clear hK9 K9 qs BW
        try simp only [Act.put, List.setIfInBounds_toArray, List.set_cons_zero, List.set_cons_succ]
        generalize hb9 : x8.heap.size = g9 at *
        generalize hx9 : x8.alloc (.cells #[.int .i64 0] 2) = x9 at *
        have G2 := Lib.hid H9
        clear H9
        refine AnyK.one (i := 11) (by kernel_rfl) rfl (fun K9 hK9 => ?_)
        go_simp
        have BW := G2.out.blk 0 (b := c.wb) (t := 31) (c := c.cells) (by rfl)
        have qs := And.intro (BW.cell 1) (BW.cell 5)
        refine hK9.out _ _ (fun _ => qs) ?_
        clear hK9 K9 qs BW
        try simp only [Act.put, List.setIfInBounds_toArray, List.set_cons_zero, List.set_cons_succ]
        refine AnyK.one (i := 12) (by kernel_rfl) rfl (fun K9 hK9 => ?_)
        go_simp
        refine (Make_h G2.out 2 rfl ⟨[c.entry], [0], 1, 0, rootR, 77⟩ (.slice (some ⟨g8, 0, none⟩) 1 1) (.slice (some ⟨g9, 0, none⟩) 1 1) (RdV.block (cs := #[.int .i64 c.entry]) (t := 29) (g := g8) (m := 1) (sz := 1) (G2.out.blk 4 rfl) rfl (by decide)) (RdV.block (cs := #[.int .i64 0]) (t := 2) (g := g9) (m := 1) (sz := 1) (G2.out.blk 5 rfl) rfl (by decide)) (by simp) (by simp)).mono ?_
        rintro e y9 ⟨rfl, H9⟩
        have H9 : Heap w y9 (wdL c (awW c.entry) ++ [blkP g8 29 #[.int .i64 c.entry], blkP g9 2 #[.int .i64 0]]) := H9
        have HF := Lib.hid H9.first
        clear H9
        refine hK9.out _ _ (fun hx => absurd (by decide) hx) ?_
        clear hK9 K9
        try simp only [Act.put, List.setIfInBounds_toArray, List.set_cons_zero, List.set_cons_succ]
        refine AnyK.phase (S' := fun _ => True) (ks' := []) (by kernel_rfl) ?_
        refine AnyK.take (i := 13) (v := ?_) rfl (by kernel_rfl) (by kernel_rfl) (by kernel_rfl) (by kernel_rfl) (fun _ _ _ h => h) (Or.inl ⟨by rfl, ?_⟩) (by exact trivial) ?_
        rotate_left
        focus
          intro w9 hSw
          try dsimp only at hSw
          go_simp
          try with_reducible rfl
        try simp only [Act.put, List.setIfInBounds_toArray, List.set_cons_zero, List.set_cons_succ]
        refine AnyK.take (i := 14) (v := ?_) rfl (by kernel_rfl) (by kernel_rfl) (by kernel_rfl) (by kernel_rfl) (fun _ _ _ h => h) (Or.inl ⟨by rfl, ?_⟩) (by exact trivial) ?_
        rotate_left
        focus
          intro w9 hSw
          try dsimp only at hSw
          go_simp
          try with_reducible rfl
        try simp only [Act.put, List.setIfInBounds_toArray, List.set_cons_zero, List.set_cons_succ]
        refine AnyK.take (i := 15) (v := ?_) rfl (by kernel_rfl) (by kernel_rfl) (by kernel_rfl) (by kernel_rfl) (fun _ _ _ h => h) (Or.inl ⟨by rfl, ?_⟩) (by exact trivial) ?_
        rotate_left
        focus
          intro w9 hSw
          try dsimp only at hSw
          go_simp
          try with_reducible rfl
        try simp only [Act.put, List.setIfInBounds_toArray, List.set_cons_zero, List.set_cons_succ]
        refine AnyK.take (i := 16) (v := ?_) rfl (by kernel_rfl) (by kernel_rfl) (by kernel_rfl) (by kernel_rfl) (fun _ _ _ h => h) (Or.inl ⟨by rfl, ?_⟩) (by exact trivial) ?_
        rotate_left
        focus
          intro w9 hSw
          try dsimp only at hSw
          go_simp
          try with_reducible rfl
        try simp only [Act.put, List.setIfInBounds_toArray, List.set_cons_zero, List.set_cons_succ]
        refine AnyK.take (i := 17) (v := ?_) rfl (by kernel_rfl) (by kernel_rfl) (by kernel_rfl) (by kernel_rfl) (fun _ _ _ h => h) (Or.inl ⟨by rfl, ?_⟩) (by exact trivial) ?_
        rotate_left
        focus
          intro w9 hSw
          try dsimp only at hSw
          go_simp
          try with_reducible rfl
        try simp only [Act.put, List.setIfInBounds_toArray, List.set_cons_zero, List.set_cons_succ]
        refine AnyK.done (by kernel_rfl) ?_ _
        refine NoPanic.normal ?_
        go_wp2_with fail
        go_meet
        exact ⟨rfl, rfl, HF⟩
    · go_simp
      have H9 := HZ.out.alloc 2 #[.int .i64 0]
      try simp only [List.append_assoc, List.cons_append, List.nil_append] at H9
      have BW := H9.blk 0 (b := c.wb) (t := 31) (c := c.cells) (by rfl)
      have qs := And.intro (BW.cell 1) (BW.cell 5)
      refine hK9.out _ _ (fun _ => qs) ?_
      clear hK9 K9 qs BW
      try simp only [Act.put, List.setIfInBounds_toArray, List.set_cons_zero, List.set_cons_succ]
      generalize hb9 : z0.heap.size = g9 at *
      generalize hx9 : z0.alloc (.cells #[.int .i64 0] 2) = x9 at *
      have G0 := Lib.hid H9
      clear H9
      refine AnyK.two (i := 8) (j := 10) (by kernel_rfl) rfl rfl (fun K9 hK9 => ?_) (fun K9 hK9 => ?_)
      · go_simp
        have H9 := G0.out.alloc 29 #[.int .i64 c.entry]
        try simp only [List.append_assoc, List.cons_append, List.nil_append] at H9
        have BW := H9.blk 0 (b := c.wb) (t := 31) (c := c.cells) (by rfl)
        have qs := And.intro (BW.cell 1) (BW.cell 5)
        refine hK9.out _ _ (fun _ => qs) ?_
        clear hK9 K9 qs BW
        try simp only [Act.put, List.setIfInBounds_toArray, List.set_cons_zero, List.set_cons_succ]
        generalize hb8 : x9.heap.size = g8 at *
        generalize hx8 : x9.alloc (.cells #[.int .i64 c.entry] 29) = x8 at *
        have G1 := Lib.hid H9
        clear H9
        refine AnyK.one (i := 10) (by kernel_rfl) rfl (fun K9 hK9 => ?_)
        go_simp
        refine (Of_calls 0 1 _ (by omega) (by omega)).mono ?_
        rintro e y ⟨rfl, hy⟩
        have hy := hy.symm
        subst hy
        have BW := G1.out.blk 0 (b := c.wb) (t := 31) (c := c.cells) (by rfl)
        have qs := And.intro (BW.cell 1) (BW.cell 5)
        refine hK9.out _ _ (fun _ => qs) ?_
        clear hK9 K9 qs BW
        try simp only [Act.put, List.setIfInBounds_toArray, List.set_cons_zero, List.set_cons_succ]
        refine AnyK.one (i := 11) (by kernel_rfl) rfl (fun K9 hK9 => ?_)
        go_simp
        have BW := G1.out.blk 0 (b := c.wb) (t := 31) (c := c.cells) (by rfl)
        have qs := And.intro (BW.cell 1) (BW.cell 5)
        refine hK9.out _ _ (fun _ => qs) ?_
        clear hK9 K9 qs BW
        try simp only [Act.put, List.setIfInBounds_toArray, List.set_cons_zero, List.set_cons_succ]
        refine AnyK.one (i := 12) (by kernel_rfl) rfl (fun K9 hK9 => ?_)
        go_simp
        refine (Make_h G1.out 2 rfl ⟨[c.entry], [0], 1, 0, rootR, 77⟩ (.slice (some ⟨g8, 0, none⟩) 1 1) (.slice (some ⟨g9, 0, none⟩) 1 1) (RdV.block (cs := #[.int .i64 c.entry]) (t := 29) (g := g8) (m := 1) (sz := 1) (G1.out.blk 5 rfl) rfl (by decide)) (RdV.block (cs := #[.int .i64 0]) (t := 2) (g := g9) (m := 1) (sz := 1) (G1.out.blk 4 rfl) rfl (by decide)) (by simp) (by simp)).mono ?_
        rintro e y9 ⟨rfl, H9⟩
        have H9 : Heap w y9 (wdL c (awW c.entry) ++ [blkP g9 2 #[.int .i64 0], blkP g8 29 #[.int .i64 c.entry]]) := H9
        have HF := Lib.hid H9.first
        clear H9
        refine hK9.out _ _ (fun hx => absurd (by decide) hx) ?_
        clear hK9 K9
        try simp only [Act.put, List.setIfInBounds_toArray, List.set_cons_zero, List.set_cons_succ]
        refine AnyK.phase (S' := fun _ => True) (ks' := []) (by kernel_rfl) ?_
        refine AnyK.take (i := 13) (v := ?_) rfl (by kernel_rfl) (by kernel_rfl) (by kernel_rfl) (by kernel_rfl) (fun _ _ _ h => h) (Or.inl ⟨by rfl, ?_⟩) (by exact trivial) ?_
        rotate_left
        focus
          intro w9 hSw
          try dsimp only at hSw
          go_simp
          try with_reducible rfl
        try simp only [Act.put, List.setIfInBounds_toArray, List.set_cons_zero, List.set_cons_succ]
        refine AnyK.take (i := 14) (v := ?_) rfl (by kernel_rfl) (by kernel_rfl) (by kernel_rfl) (by kernel_rfl) (fun _ _ _ h => h) (Or.inl ⟨by rfl, ?_⟩) (by exact trivial) ?_
        rotate_left
        focus
          intro w9 hSw
          try dsimp only at hSw
          go_simp
          try with_reducible rfl
        try simp only [Act.put, List.setIfInBounds_toArray, List.set_cons_zero, List.set_cons_succ]
        refine AnyK.take (i := 15) (v := ?_) rfl (by kernel_rfl) (by kernel_rfl) (by kernel_rfl) (by kernel_rfl) (fun _ _ _ h => h) (Or.inl ⟨by rfl, ?_⟩) (by exact trivial) ?_
        rotate_left
        focus
          intro w9 hSw
          try dsimp only at hSw
          go_simp
          try with_reducible rfl
        try simp only [Act.put, List.setIfInBounds_toArray, List.set_cons_zero, List.set_cons_succ]
        refine AnyK.take (i := 16) (v := ?_) rfl (by kernel_rfl) (by kernel_rfl) (by kernel_rfl) (by kernel_rfl) (fun _ _ _ h => h) (Or.inl ⟨by rfl, ?_⟩) (by exact trivial) ?_
        rotate_left
        focus
          intro w9 hSw
          try dsimp only at hSw
          go_simp
          try with_reducible rfl
        try simp only [Act.put, List.setIfInBounds_toArray, List.set_cons_zero, List.set_cons_succ]
        refine AnyK.take (i := 17) (v := ?_) rfl (by kernel_rfl) (by kernel_rfl) (by kernel_rfl) (by kernel_rfl) (fun _ _ _ h => h) (Or.inl ⟨by rfl, ?_⟩) (by exact trivial) ?_
        rotate_left
        focus
          intro w9 hSw
          try dsimp only at hSw
          go_simp
          try with_reducible rfl
        try simp only [Act.put, List.setIfInBounds_toArray, List.set_cons_zero, List.set_cons_succ]
        refine AnyK.done (by kernel_rfl) ?_ _
        refine NoPanic.normal ?_
        go_wp2_with fail
        go_meet
        exact ⟨rfl, rfl, HF⟩
      · go_simp
        refine (Of_calls 0 1 _ (by omega) (by omega)).mono ?_
        rintro e y ⟨rfl, hy⟩
        have hy := hy.symm
        subst hy
        have BW := G0.out.blk 0 (b := c.wb) (t := 31) (c := c.cells) (by rfl)
        have qs := And.intro (BW.cell 1) (BW.cell 5)
        refine hK9.out _ _ (fun _ => qs) ?_
        clear hK9 K9 qs BW
        try simp only [Act.put, List.setIfInBounds_toArray, List.set_cons_zero, List.set_cons_succ]
        refine AnyK.one (i := 8) (by kernel_rfl) rfl (fun K9 hK9 => ?_)
        go_simp
        have H9 := G0.out.alloc 29 #[.int .i64 c.entry]
        try simp only [List.append_assoc, List.cons_append, List.nil_append] at H9
        have BW := H9.blk 0 (b := c.wb) (t := 31) (c := c.cells) (by rfl)
        have qs := And.intro (BW.cell 1) (BW.cell 5)
        refine hK9.out _ _ (fun _ => qs) ?_
        clear hK9 K9 qs BW
        try simp only [Act.put, List.setIfInBounds_toArray, List.set_cons_zero, List.set_cons_succ]
        generalize hb8 : x9.heap.size = g8 at *
        generalize hx8 : x9.alloc (.cells #[.int .i64 c.entry] 29) = x8 at *
        have G2 := Lib.hid H9
        clear H9
        refine AnyK.one (i := 11) (by kernel_rfl) rfl (fun K9 hK9 => ?_)
        go_simp
        have BW := G2.out.blk 0 (b := c.wb) (t := 31) (c := c.cells) (by rfl)
        have qs := And.intro (BW.cell 1) (BW.cell 5)
        refine hK9.out _ _ (fun _ => qs) ?_
        clear hK9 K9 qs BW
        try simp only [Act.put, List.setIfInBounds_toArray, List.set_cons_zero, List.set_cons_succ]
        refine AnyK.one (i := 12) (by kernel_rfl) rfl (fun K9 hK9 => ?_)
        go_simp
        refine (Make_h G2.out 2 rfl ⟨[c.entry], [0], 1, 0, rootR, 77⟩ (.slice (some ⟨g8, 0, none⟩) 1 1) (.slice (some ⟨g9, 0, none⟩) 1 1) (RdV.block (cs := #[.int .i64 c.entry]) (t := 29) (g := g8) (m := 1) (sz := 1) (G2.out.blk 5 rfl) rfl (by decide)) (RdV.block (cs := #[.int .i64 0]) (t := 2) (g := g9) (m := 1) (sz := 1) (G2.out.blk 4 rfl) rfl (by decide)) (by simp) (by simp)).mono ?_
        rintro e y9 ⟨rfl, H9⟩
        have H9 : Heap w y9 (wdL c (awW c.entry) ++ [blkP g9 2 #[.int .i64 0], blkP g8 29 #[.int .i64 c.entry]]) := H9
        have HF := Lib.hid H9.first
        clear H9
        refine hK9.out _ _ (fun hx => absurd (by decide) hx) ?_
        clear hK9 K9
        try simp only [Act.put, List.setIfInBounds_toArray, List.set_cons_zero, List.set_cons_succ]
        refine AnyK.phase (S' := fun _ => True) (ks' := []) (by kernel_rfl) ?_
        refine AnyK.take (i := 13) (v := ?_) rfl (by kernel_rfl) (by kernel_rfl) (by kernel_rfl) (by kernel_rfl) (fun _ _ _ h => h) (Or.inl ⟨by rfl, ?_⟩) (by exact trivial) ?_
        rotate_left
        focus
          intro w9 hSw
          try dsimp only at hSw
          go_simp
          try with_reducible rfl
        try simp only [Act.put, List.setIfInBounds_toArray, List.set_cons_zero, List.set_cons_succ]
        refine AnyK.take (i := 14) (v := ?_) rfl (by kernel_rfl) (by kernel_rfl) (by kernel_rfl) (by kernel_rfl) (fun _ _ _ h => h) (Or.inl ⟨by rfl, ?_⟩) (by exact trivial) ?_
        rotate_left
        focus
          intro w9 hSw
          try dsimp only at hSw
          go_simp
          try with_reducible rfl
        try simp only [Act.put, List.setIfInBounds_toArray, List.set_cons_zero, List.set_cons_succ]
        refine AnyK.take (i := 15) (v := ?_) rfl (by kernel_rfl) (by kernel_rfl) (by kernel_rfl) (by kernel_rfl) (fun _ _ _ h => h) (Or.inl ⟨by rfl, ?_⟩) (by exact trivial) ?_
        rotate_left
        focus
          intro w9 hSw
          try dsimp only at hSw
          go_simp
          try with_reducible rfl
        try simp only [Act.put, List.setIfInBounds_toArray, List.set_cons_zero, List.set_cons_succ]
        refine AnyK.take (i := 16) (v := ?_) rfl (by kernel_rfl) (by kernel_rfl) (by kernel_rfl) (by kernel_rfl) (fun _ _ _ h => h) (Or.inl ⟨by rfl, ?_⟩) (by exact trivial) ?_
        rotate_left
        focus
          intro w9 hSw
          try dsimp only at hSw
          go_simp
          try with_reducible rfl
        try simp only [Act.put, List.setIfInBounds_toArray, List.set_cons_zero, List.set_cons_succ]
        refine AnyK.take (i := 17) (v := ?_) rfl (by kernel_rfl) (by kernel_rfl) (by kernel_rfl) (by kernel_rfl) (fun _ _ _ h => h) (Or.inl ⟨by rfl, ?_⟩) (by exact trivial) ?_
        rotate_left
        focus
          intro w9 hSw
          try dsimp only at hSw
          go_simp
          try with_reducible rfl
        try simp only [Act.put, List.setIfInBounds_toArray, List.set_cons_zero, List.set_cons_succ]
        refine AnyK.done (by kernel_rfl) ?_ _
        refine NoPanic.normal ?_
        go_wp2_with fail
        go_meet
        exact ⟨rfl, rfl, HF⟩
    · go_simp
      refine (Of_calls 0 1 _ (by omega) (by omega)).mono ?_
      rintro e y ⟨rfl, hy⟩
      have hy := hy.symm
      subst hy
      have BW := HZ.out.blk 0 (b := c.wb) (t := 31) (c := c.cells) (by rfl)
      have qs := And.intro (BW.cell 1) (BW.cell 5)
      refine hK9.out _ _ (fun _ => qs) ?_
      clear hK9 K9 qs BW
      try simp only [Act.put, List.setIfInBounds_toArray, List.set_cons_zero, List.set_cons_succ]
      refine AnyK.two (i := 8) (j := 9) (by kernel_rfl) rfl rfl (fun K9 hK9 => ?_) (fun K9 hK9 => ?_)
      · go_simp
        have H9 := HZ.out.alloc 29 #[.int .i64 c.entry]
        try simp only [List.append_assoc, List.cons_append, List.nil_append] at H9
        have BW := H9.blk 0 (b := c.wb) (t := 31) (c := c.cells) (by rfl)
        have qs := And.intro (BW.cell 1) (BW.cell 5)
        refine hK9.out _ _ (fun _ => qs) ?_
        clear hK9 K9 qs BW
        try simp only [Act.put, List.setIfInBounds_toArray, List.set_cons_zero, List.set_cons_succ]
        generalize hb8 : z0.heap.size = g8 at *
        generalize hx8 : z0.alloc (.cells #[.int .i64 c.entry] 29) = x8 at *
        have G1 := Lib.hid H9
        clear H9
        refine AnyK.one (i := 9) (by kernel_rfl) rfl (fun K9 hK9 => ?_)
        go_simp
        have H9 := G1.out.alloc 2 #[.int .i64 0]
        try simp only [List.append_assoc, List.cons_append, List.nil_append] at H9
        have BW := H9.blk 0 (b := c.wb) (t := 31) (c := c.cells) (by rfl)
        have qs := And.intro (BW.cell 1) (BW.cell 5)
        refine hK9.out _ _ (fun _ => qs) ?_
        clear hK9 K9 qs BW
        try simp only [Act.put, List.setIfInBounds_toArray, List.set_cons_zero, List.set_cons_succ]
        generalize hb9 : x8.heap.size = g9 at *
        generalize hx9 : x8.alloc (.cells #[.int .i64 0] 2) = x9 at *
        have G2 := Lib.hid H9
        clear H9
        refine AnyK.one (i := 11) (by kernel_rfl) rfl (fun K9 hK9 => ?_)
        go_simp
        have BW := G2.out.blk 0 (b := c.wb) (t := 31) (c := c.cells) (by rfl)
        have qs := And.intro (BW.cell 1) (BW.cell 5)
        refine hK9.out _ _ (fun _ => qs) ?_
        clear hK9 K9 qs BW
        try simp only [Act.put, List.setIfInBounds_toArray, List.set_cons_zero, List.set_cons_succ]
        refine AnyK.one (i := 12) (by kernel_rfl) rfl (fun K9 hK9 => ?_)
        go_simp
        refine (Make_h G2.out 2 rfl ⟨[c.entry], [0], 1, 0, rootR, 77⟩ (.slice (some ⟨g8, 0, none⟩) 1 1) (.slice (some ⟨g9, 0, none⟩) 1 1) (RdV.block (cs := #[.int .i64 c.entry]) (t := 29) (g := g8) (m := 1) (sz := 1) (G2.out.blk 4 rfl) rfl (by decide)) (RdV.block (cs := #[.int .i64 0]) (t := 2) (g := g9) (m := 1) (sz := 1) (G2.out.blk 5 rfl) rfl (by decide)) (by simp) (by simp)).mono ?_
        rintro e y9 ⟨rfl, H9⟩
        have H9 : Heap w y9 (wdL c (awW c.entry) ++ [blkP g8 29 #[.int .i64 c.entry], blkP g9 2 #[.int .i64 0]]) := H9
        have HF := Lib.hid H9.first
        clear H9
        refine hK9.out _ _ (fun hx => absurd (by decide) hx) ?_
        clear hK9 K9
        try simp only [Act.put, List.setIfInBounds_toArray, List.set_cons_zero, List.set_cons_succ]
        refine AnyK.phase (S' := fun _ => True) (ks' := []) (by kernel_rfl) ?_
        refine AnyK.take (i := 13) (v := ?_) rfl (by kernel_rfl) (by kernel_rfl) (by kernel_rfl) (by kernel_rfl) (fun _ _ _ h => h) (Or.inl ⟨by rfl, ?_⟩) (by exact trivial) ?_
        rotate_left
        focus
          intro w9 hSw
          try dsimp only at hSw
          go_simp
          try with_reducible rfl
        try simp only [Act.put, List.setIfInBounds_toArray, List.set_cons_zero, List.set_cons_succ]
        refine AnyK.take (i := 14) (v := ?_) rfl (by kernel_rfl) (by kernel_rfl) (by kernel_rfl) (by kernel_rfl) (fun _ _ _ h => h) (Or.inl ⟨by rfl, ?_⟩) (by exact trivial) ?_
        rotate_left
        focus
          intro w9 hSw
          try dsimp only at hSw
          go_simp
          try with_reducible rfl
        try simp only [Act.put, List.setIfInBounds_toArray, List.set_cons_zero, List.set_cons_succ]
        refine AnyK.take (i := 15) (v := ?_) rfl (by kernel_rfl) (by kernel_rfl) (by kernel_rfl) (by kernel_rfl) (fun _ _ _ h => h) (Or.inl ⟨by rfl, ?_⟩) (by exact trivial) ?_
        rotate_left
        focus
          intro w9 hSw
          try dsimp only at hSw
          go_simp
          try with_reducible rfl
        try simp only [Act.put, List.setIfInBounds_toArray, List.set_cons_zero, List.set_cons_succ]
        refine AnyK.take (i := 16) (v := ?_) rfl (by kernel_rfl) (by kernel_rfl) (by kernel_rfl) (by kernel_rfl) (fun _ _ _ h => h) (Or.inl ⟨by rfl, ?_⟩) (by exact trivial) ?_
        rotate_left
        focus
          intro w9 hSw
          try dsimp only at hSw
          go_simp
          try with_reducible rfl
        try simp only [Act.put, List.setIfInBounds_toArray, List.set_cons_zero, List.set_cons_succ]
        refine AnyK.take (i := 17) (v := ?_) rfl (by kernel_rfl) (by kernel_rfl) (by kernel_rfl) (by kernel_rfl) (fun _ _ _ h => h) (Or.inl ⟨by rfl, ?_⟩) (by exact trivial) ?_
        rotate_left
        focus
          intro w9 hSw
          try dsimp only at hSw
          go_simp
          try with_reducible rfl
        try simp only [Act.put, List.setIfInBounds_toArray, List.set_cons_zero, List.set_cons_succ]
        refine AnyK.done (by kernel_rfl) ?_ _
        refine NoPanic.normal ?_
        go_wp2_with fail
        go_meet
        exact ⟨rfl, rfl, HF⟩
      · go_simp
        have H9 := HZ.out.alloc 2 #[.int .i64 0]
        try simp only [List.append_assoc, List.cons_append, List.nil_append] at H9
        have BW := H9.blk 0 (b := c.wb) (t := 31) (c := c.cells) (by rfl)
        have qs := And.intro (BW.cell 1) (BW.cell 5)
        refine hK9.out _ _ (fun _ => qs) ?_
        clear hK9 K9 qs BW
        try simp only [Act.put, List.setIfInBounds_toArray, List.set_cons_zero, List.set_cons_succ]
        generalize hb9 : z0.heap.size = g9 at *
        generalize hx9 : z0.alloc (.cells #[.int .i64 0] 2) = x9 at *
        have G1 := Lib.hid H9
        clear H9
        refine AnyK.one (i := 8) (by kernel_rfl) rfl (fun K9 hK9 => ?_)
        go_simp
        have H9 := G1.out.alloc 29 #[.int .i64 c.entry]
        try simp only [List.append_assoc, List.cons_append, List.nil_append] at H9
        have BW := H9.blk 0 (b := c.wb) (t := 31) (c := c.cells) (by rfl)
        have qs := And.intro (BW.cell 1) (BW.cell 5)
        refine hK9.out _ _ (fun _ => qs) ?_
        clear hK9 K9 qs BW
        try simp only [Act.put, List.setIfInBounds_toArray, List.set_cons_zero, List.set_cons_succ]
        generalize hb8 : x9.heap.size = g8 at *
        generalize hx8 : x9.alloc (.cells #[.int .i64 c.entry] 29) = x8 at *
        have G2 := Lib.hid H9
        clear H9
        refine AnyK.one (i := 11) (by kernel_rfl) rfl (fun K9 hK9 => ?_)
        go_simp
        have BW := G2.out.blk 0 (b := c.wb) (t := 31) (c := c.cells) (by rfl)
        have qs := And.intro (BW.cell 1) (BW.cell 5)
        refine hK9.out _ _ (fun _ => qs) ?_
        clear hK9 K9 qs BW
        try simp only [Act.put, List.setIfInBounds_toArray, List.set_cons_zero, List.set_cons_succ]
        refine AnyK.one (i := 12) (by kernel_rfl) rfl (fun K9 hK9 => ?_)
        go_simp
        refine (Make_h G2.out 2 rfl ⟨[c.entry], [0], 1, 0, rootR, 77⟩ (.slice (some ⟨g8, 0, none⟩) 1 1) (.slice (some ⟨g9, 0, none⟩) 1 1) (RdV.block (cs := #[.int .i64 c.entry]) (t := 29) (g := g8) (m := 1) (sz := 1) (G2.out.blk 5 rfl) rfl (by decide)) (RdV.block (cs := #[.int .i64 0]) (t := 2) (g := g9) (m := 1) (sz := 1) (G2.out.blk 4 rfl) rfl (by decide)) (by simp) (by simp)).mono ?_
        rintro e y9 ⟨rfl, H9⟩
        have H9 : Heap w y9 (wdL c (awW c.entry) ++ [blkP g9 2 #[.int .i64 0], blkP g8 29 #[.int .i64 c.entry]]) := H9
        have HF := Lib.hid H9.first
        clear H9
        refine hK9.out _ _ (fun hx => absurd (by decide) hx) ?_
        clear hK9 K9
        try simp only [Act.put, List.setIfInBounds_toArray, List.set_cons_zero, List.set_cons_succ]
        refine AnyK.phase (S' := fun _ => True) (ks' := []) (by kernel_rfl) ?_
        refine AnyK.take (i := 13) (v := ?_) rfl (by kernel_rfl) (by kernel_rfl) (by kernel_rfl) (by kernel_rfl) (fun _ _ _ h => h) (Or.inl ⟨by rfl, ?_⟩) (by exact trivial) ?_
        rotate_left
        focus
          intro w9 hSw
          try dsimp only at hSw
          go_simp
          try with_reducible rfl
        try simp only [Act.put, List.setIfInBounds_toArray, List.set_cons_zero, List.set_cons_succ]
        refine AnyK.take (i := 14) (v := ?_) rfl (by kernel_rfl) (by kernel_rfl) (by kernel_rfl) (by kernel_rfl) (fun _ _ _ h => h) (Or.inl ⟨by rfl, ?_⟩) (by exact trivial) ?_
        rotate_left
        focus
          intro w9 hSw
          try dsimp only at hSw
          go_simp
          try with_reducible rfl
        try simp only [Act.put, List.setIfInBounds_toArray, List.set_cons_zero, List.set_cons_succ]
        refine AnyK.take (i := 15) (v := ?_) rfl (by kernel_rfl) (by kernel_rfl) (by kernel_rfl) (by kernel_rfl) (fun _ _ _ h => h) (Or.inl ⟨by rfl, ?_⟩) (by exact trivial) ?_
        rotate_left
        focus
          intro w9 hSw
          try dsimp only at hSw
          go_simp
          try with_reducible rfl
        try simp only [Act.put, List.setIfInBounds_toArray, List.set_cons_zero, List.set_cons_succ]
        refine AnyK.take (i := 16) (v := ?_) rfl (by kernel_rfl) (by kernel_rfl) (by kernel_rfl) (by kernel_rfl) (fun _ _ _ h => h) (Or.inl ⟨by rfl, ?_⟩) (by exact trivial) ?_
        rotate_left
        focus
          intro w9 hSw
          try dsimp only at hSw
          go_simp
          try with_reducible rfl
        try simp only [Act.put, List.setIfInBounds_toArray, List.set_cons_zero, List.set_cons_succ]
        refine AnyK.take (i := 17) (v := ?_) rfl (by kernel_rfl) (by kernel_rfl) (by kernel_rfl) (by kernel_rfl) (fun _ _ _ h => h) (Or.inl ⟨by rfl, ?_⟩) (by exact trivial) ?_
        rotate_left
        focus
          intro w9 hSw
          try dsimp only at hSw
          go_simp
          try with_reducible rfl
        try simp only [Act.put, List.setIfInBounds_toArray, List.set_cons_zero, List.set_cons_succ]
        refine AnyK.done (by kernel_rfl) ?_ _
        refine NoPanic.normal ?_
        go_wp2_with fail
        go_meet
        exact ⟨rfl, rfl, HF⟩
  case rest =>
    obtain ⟨rfl, rfl, HH⟩ := hcut
    have H1 := HH.out
    rw [HCE.out] at H1
    have CH := Lib.hid (helper_alone (Z := []) (me := 0) (by rw [List.append_nil]; exact H1) 1 ⟨[entryR], [0], 1, 0, rootR, 77⟩ rfl (by decide) (by decide) awW_ok (by omega) _ aw_sol (by simp))
    clear H1 HH HZ v0 v1 v2 v3 v4 v5
    go_wp2_with fail
    refine CH.out.mono ?_
    rintro e w3 ⟨tb, rfl, CA⟩
    clear CH
    go_wp2_with fail
    refine CA.out.mono ?_
    rintro e w4 ⟨T', a, cp, a2, cp2, rfl, H4, hd, ho, ok4⟩
    clear CA
    obtain ⟨a1, ea, hc1, hat⟩ := ((H4.row 6 (t := 2) (sz := 1) (n := 1) (v := .slice a2 1 cp2) (us := intC [1]) rfl).rdv).at (by omega)
    have ea : a2 = some a1 := by simpa using ea
    subst ea
    have y0 : w4.cell? a1 = some (.int .i64 1) := hat 0 (.int .i64 1) rfl
    obtain ⟨v0, v1, v2, v3, v4, v5⟩ := wdL_cells H4
    rw [HCE.out] at v5
    have HH := Lib.hid H4
    have okA : OkAr awZ.ar := ok4.ar.ok (by decide)
    clear H4 hat hd ho ok4
    go_wp2_with fail
    go_quiet ((first
      | (go_at_call 47; exact Calls.quiet_of_same ((Way_q (HH.out.drewN _) 1 rfl okA entryR 0 aw_at).mono (R' := fun e w' => e = .returned (.int .i64 77) ∧ w' = _) (fun e w' h => h)))
      | (go_at_call 56; exact Calls.quiet_of_same ((State_h (HH.out.drewN _) 2 rfl 1).mono (R' := fun e w' => e = .returned (.int .u8 2) ∧ w' = _) (fun e w' h => h)))
      | (go_at_call 63; exact Calls.quiet_of_same ((Info_q (HH.out.drewN _) 1 rfl okA entryR aw_at).mono (R' := fun e w' => e = .returned (.int .i64 1) ∧ w' = _) (fun e w' h => h)))))
    go_wp2_with fail
    go_ret
    exact ⟨rfl, (HH.out.drewN _).fr⟩
end Go.Proofs.Ythkohomogknddaa
