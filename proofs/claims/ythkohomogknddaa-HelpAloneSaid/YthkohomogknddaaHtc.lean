/- The touches of help.Record and of help.set. No condition but the bounds of size. -/
import Derived.Test.YthkohomogknddaaTch
import Derived.Test.YthkohomogknddaaK3
namespace Go.Proofs.Ythkohomogknddaa
open Go Go.RowKit
set_option linter.unusedVariables false
set_option linter.unusedSimpArgs false
set_option maxRecDepth 100000
section
variable {w0 w : World} {pl : Pl Wd} {X : List Piece} {s : Wd} {T : Th} {c : Wc} {tk nk mk N : Nat} {me now : Int}
theorem set_touch (wp : WdPl pl c) (h : Heap w0 w (pl.F s T ++ X)) (ti : Nat) (hT : X[ti]? = some (tkP pl.tb c.wb tk me)) (ni : Nat) (n : Int) (hN : X[ni]? = some (blkP nk 2 #[.int .i64 n])) (mi : Nat) (st : Int) (hM : X[mi]? = some (blkP mk 83 #[.int .u8 st])) :
    Calls Try.prog 104 #[.pointer (some ⟨tk, 0, none⟩), .pointer (some ⟨nk, 0, none⟩), .pointer (some ⟨mk, 0, none⟩)] w fun e w' => e = .returned (.int .i64 0) ∧ Heap w0 w' (pl.F (aSet n st s).2 T ++ X) := by
  have hd : Heap w0 w.drew (pl.F s T ++ X) := h.drew
  obtain ⟨k0, k1, k2⟩ := tk_cells hd ti hT
  obtain ⟨v0, v1, v2, v3, v4, v5⟩ := wd_cells wp hd
  have kn : w.drew.cell? ⟨nk, 0, none⟩ = some (.int .i64 n) := (x_blk hd ni hN).cell 0
  have km : w.drew.cell? ⟨mk, 0, none⟩ = some (.int .u8 st) := (x_blk hd mi hM).cell 0
  have C := Lib.hid (Set_h hd (wp.wi + 2) (get_left (wp.g2 s T)) n st)
  have q0 : w.drew.cell? ⟨tk, 1, none⟩ = some (.pointer (some ⟨c.wb, 0, none⟩)) ∧ w.drew.cell? ⟨c.wb, 1, none⟩ = some (.pointer (some ⟨c.rb, 0, none⟩)) ∧ w.drew.cell? ⟨nk, 0, none⟩ = some (.int .i64 n) ∧ w.drew.cell? ⟨mk, 0, none⟩ = some (.int .u8 st) := ⟨k1, v1, kn, km⟩
  clear h hd
  go_enter Try.func104, Try.ntmps104
  go_wp2_with fail
  refine wp_region_noPanic ?_
  refine AnyK.start (ks := [7]) (S := fun w' => w'.cell? ⟨tk, 1, none⟩ = some (.pointer (some ⟨c.wb, 0, none⟩)) ∧ w'.cell? ⟨c.wb, 1, none⟩ = some (.pointer (some ⟨c.rb, 0, none⟩)) ∧ w'.cell? ⟨nk, 0, none⟩ = some (.int .i64 n) ∧ w'.cell? ⟨mk, 0, none⟩ = some (.int .u8 st)) (by kernel_rfl) (by exact q0) (fun _ => ?_)
  refine AnyK.takeB (i := 0) (v := ?_) rfl (by kernel_rfl) (by kernel_rfl) (by kernel_rfl) (by kernel_rfl) (fun _ _ _ h => h) (Or.inl ⟨by rfl, ?_⟩) (by exact q0) ?_
  rotate_left
  focus
    intro w9 hSw
    try dsimp only at hSw
    go_simp
    try with_reducible rfl
  try simp only [Act.put, List.setIfInBounds_toArray, List.set_cons_zero, List.set_cons_succ]
  refine AnyK.takeB (i := 1) (v := ?_) rfl (by kernel_rfl) (by kernel_rfl) (by kernel_rfl) (by kernel_rfl) (fun _ _ _ h => h) (Or.inl ⟨by rfl, ?_⟩) (by exact q0) ?_
  rotate_left
  focus
    intro w9 hSw
    try dsimp only at hSw
    go_simp
    try with_reducible rfl
  try simp only [Act.put, List.setIfInBounds_toArray, List.set_cons_zero, List.set_cons_succ]
  refine AnyK.takeB (i := 2) (v := ?_) rfl (by kernel_rfl) (by kernel_rfl) (by kernel_rfl) (by kernel_rfl) (fun _ _ _ h => h) (Or.inl ⟨by rfl, ?_⟩) (by exact q0) ?_
  rotate_left
  focus
    intro w9 hSw
    try dsimp only at hSw
    go_simp
    try with_reducible rfl
  try simp only [Act.put, List.setIfInBounds_toArray, List.set_cons_zero, List.set_cons_succ]
  refine AnyK.takeB (i := 3) (v := ?_) rfl (by kernel_rfl) (by kernel_rfl) (by kernel_rfl) (by kernel_rfl) (fun _ _ _ h => h) (Or.inl ⟨by rfl, ?_⟩) (by exact q0) ?_
  rotate_left
  focus
    intro w9 hSw
    try dsimp only at hSw
    go_simp
    try with_reducible rfl
  try simp only [Act.put, List.setIfInBounds_toArray, List.set_cons_zero, List.set_cons_succ]
  refine AnyK.takeB (i := 4) (v := ?_) rfl (by kernel_rfl) (by kernel_rfl) (by kernel_rfl) (by kernel_rfl) (fun _ _ _ h => h) (Or.inl ⟨by rfl, ?_⟩) (by exact q0) ?_
  rotate_left
  focus
    intro w9 hSw
    try dsimp only at hSw
    go_simp
    try with_reducible rfl
  try simp only [Act.put, List.setIfInBounds_toArray, List.set_cons_zero, List.set_cons_succ]
  refine AnyK.takeB (i := 5) (v := ?_) rfl (by kernel_rfl) (by kernel_rfl) (by kernel_rfl) (by kernel_rfl) (fun _ _ _ h => h) (Or.inl ⟨by rfl, ?_⟩) (by exact q0) ?_
  rotate_left
  focus
    intro w9 hSw
    try dsimp only at hSw
    go_simp
    try with_reducible rfl
  try simp only [Act.put, List.setIfInBounds_toArray, List.set_cons_zero, List.set_cons_succ]
  refine AnyK.takeB (i := 6) (v := ?_) rfl (by kernel_rfl) (by kernel_rfl) (by kernel_rfl) (by kernel_rfl) (fun _ _ _ h => h) (Or.inl ⟨by rfl, ?_⟩) (by exact q0) ?_
  rotate_left
  focus
    intro w9 hSw
    try dsimp only at hSw
    go_simp
    try with_reducible rfl
  try simp only [Act.put, List.setIfInBounds_toArray, List.set_cons_zero, List.set_cons_succ]
  refine AnyK.one (i := 7) (by kernel_rfl) rfl (fun K9 hK9 => ?_)
  go_simp
  refine C.out.mono ?_
  rintro e w' ⟨rfl, H⟩
  refine hK9.out _ _ (fun hx => absurd (by decide) hx) ?_
  clear hK9 K9
  try simp only [Act.put, List.setIfInBounds_toArray, List.set_cons_zero, List.set_cons_succ]
  refine AnyK.done (by kernel_rfl) ?_ _
  refine NoPanic.normal ?_
  rw [wp.setRt] at H
  have HF : Heap w0 w' (pl.F (aSet n st s).2 T ++ X) := H
  go_wp2_with fail
  go_ret
  exact ⟨rfl, HF⟩
theorem all_touch (wp : WdPl pl c) (h : Heap w0 w (pl.F s T ++ X)) (ti : Nat) (hT : X[ti]? = some (tkP pl.tb c.wb tk me)) (ni : Nat) (n : Int) (hN : X[ni]? = some (blkP nk 2 #[.int .i64 n])) :
    Calls Try.prog 97 #[.pointer (some ⟨tk, 0, none⟩), .pointer (some ⟨nk, 0, none⟩)] w fun e w' => e = .returned (.bool (allRt n s.rt)) ∧ Heap w0 w' (pl.F (aAll n s).2 T ++ X) := by
  have hd : Heap w0 w.drew (pl.F s T ++ X) := h.drew
  obtain ⟨k0, k1, k2⟩ := tk_cells hd ti hT
  obtain ⟨v0, v1, v2, v3, v4, v5⟩ := wd_cells wp hd
  have kn : w.drew.cell? ⟨nk, 0, none⟩ = some (.int .i64 n) := (x_blk hd ni hN).cell 0
  have C := Lib.hid ((All_h hd (wp.wi + 2) (get_left (wp.g2 s T)) n).mono (fun e w' (he : e = _ ∧ w' = _) => (⟨he.1, he.2 ▸ hd⟩ : e = .returned (.bool (allRt n s.rt)) ∧ Heap w0 w' (pl.F s T ++ X))))
  have q0 : w.drew.cell? ⟨tk, 1, none⟩ = some (.pointer (some ⟨c.wb, 0, none⟩)) ∧ w.drew.cell? ⟨c.wb, 1, none⟩ = some (.pointer (some ⟨c.rb, 0, none⟩)) ∧ w.drew.cell? ⟨nk, 0, none⟩ = some (.int .i64 n) := ⟨k1, v1, kn⟩
  clear h hd
  go_enter Try.func97, Try.ntmps97
  go_wp2_with fail
  refine wp_region_noPanic ?_
  refine AnyK.start (ks := [6, 7]) (S := fun w' => w'.cell? ⟨tk, 1, none⟩ = some (.pointer (some ⟨c.wb, 0, none⟩)) ∧ w'.cell? ⟨c.wb, 1, none⟩ = some (.pointer (some ⟨c.rb, 0, none⟩)) ∧ w'.cell? ⟨nk, 0, none⟩ = some (.int .i64 n)) (by kernel_rfl) (by exact q0) (fun _ => ?_)
  refine AnyK.takeB (i := 0) (v := ?_) rfl (by kernel_rfl) (by kernel_rfl) (by kernel_rfl) (by kernel_rfl) (fun _ _ _ h => h) (Or.inl ⟨by rfl, ?_⟩) (by exact q0) ?_
  rotate_left
  focus
    intro w9 hSw
    try dsimp only at hSw
    go_simp
    try with_reducible rfl
  try simp only [Act.put, List.setIfInBounds_toArray, List.set_cons_zero, List.set_cons_succ]
  refine AnyK.takeB (i := 1) (v := ?_) rfl (by kernel_rfl) (by kernel_rfl) (by kernel_rfl) (by kernel_rfl) (fun _ _ _ h => h) (Or.inl ⟨by rfl, ?_⟩) (by exact q0) ?_
  rotate_left
  focus
    intro w9 hSw
    try dsimp only at hSw
    go_simp
    try with_reducible rfl
  try simp only [Act.put, List.setIfInBounds_toArray, List.set_cons_zero, List.set_cons_succ]
  refine AnyK.takeB (i := 2) (v := ?_) rfl (by kernel_rfl) (by kernel_rfl) (by kernel_rfl) (by kernel_rfl) (fun _ _ _ h => h) (Or.inl ⟨by rfl, ?_⟩) (by exact q0) ?_
  rotate_left
  focus
    intro w9 hSw
    try dsimp only at hSw
    go_simp
    try with_reducible rfl
  try simp only [Act.put, List.setIfInBounds_toArray, List.set_cons_zero, List.set_cons_succ]
  refine AnyK.takeB (i := 3) (v := ?_) rfl (by kernel_rfl) (by kernel_rfl) (by kernel_rfl) (by kernel_rfl) (fun _ _ _ h => h) (Or.inl ⟨by rfl, ?_⟩) (by exact q0) ?_
  rotate_left
  focus
    intro w9 hSw
    try dsimp only at hSw
    go_simp
    try with_reducible rfl
  try simp only [Act.put, List.setIfInBounds_toArray, List.set_cons_zero, List.set_cons_succ]
  refine AnyK.takeB (i := 4) (v := ?_) rfl (by kernel_rfl) (by kernel_rfl) (by kernel_rfl) (by kernel_rfl) (fun _ _ _ h => h) (Or.inl ⟨by rfl, ?_⟩) (by exact q0) ?_
  rotate_left
  focus
    intro w9 hSw
    try dsimp only at hSw
    go_simp
    try with_reducible rfl
  try simp only [Act.put, List.setIfInBounds_toArray, List.set_cons_zero, List.set_cons_succ]
  refine AnyK.takeB (i := 5) (v := ?_) rfl (by kernel_rfl) (by kernel_rfl) (by kernel_rfl) (by kernel_rfl) (fun _ _ _ h => h) (Or.inl ⟨by rfl, ?_⟩) (by exact q0) ?_
  rotate_left
  focus
    intro w9 hSw
    try dsimp only at hSw
    go_simp
    try with_reducible rfl
  try simp only [Act.put, List.setIfInBounds_toArray, List.set_cons_zero, List.set_cons_succ]
  refine AnyK.one (i := 6) (by kernel_rfl) rfl (fun K9 hK9 => ?_)
  go_simp
  refine C.out.mono ?_
  rintro e w' ⟨rfl, H⟩
  refine hK9.out _ _ (fun hx => absurd (by decide) hx) ?_
  clear hK9 K9
  try simp only [Act.put, List.setIfInBounds_toArray, List.set_cons_zero, List.set_cons_succ]
  refine AnyK.one (i := 7) (by kernel_rfl) rfl (fun K9 hK9 => ?_)
  go_simp
  refine hK9.out _ _ (fun hx => absurd (by decide) hx) ?_
  clear hK9 K9
  try simp only [Act.put, List.setIfInBounds_toArray, List.set_cons_zero, List.set_cons_succ]
  refine AnyK.done (by kernel_rfl) ?_ _
  refine NoPanic.normal ?_
  have HF : Heap w0 w' (pl.F (aAll n s).2 T ++ X) := H
  go_wp2_with fail
  go_ret
  exact ⟨rfl, HF⟩
theorem setAll_touch (wp : WdPl pl c) (h : Heap w0 w (pl.F s T ++ X)) (ti : Nat) (hT : X[ti]? = some (tkP pl.tb c.wb tk me)) (ni : Nat) (n : Int) (hN : X[ni]? = some (blkP nk 2 #[.int .i64 n])) :
    Calls Try.prog 99 #[.pointer (some ⟨tk, 0, none⟩), .pointer (some ⟨nk, 0, none⟩)] w fun e w' => e = .returned (.int .i64 0) ∧ Heap w0 w' (pl.F (aSetAll n s).2 T ++ X) := by
  have hd : Heap w0 w.drew (pl.F s T ++ X) := h.drew
  obtain ⟨k0, k1, k2⟩ := tk_cells hd ti hT
  obtain ⟨v0, v1, v2, v3, v4, v5⟩ := wd_cells wp hd
  have kn : w.drew.cell? ⟨nk, 0, none⟩ = some (.int .i64 n) := (x_blk hd ni hN).cell 0
  have C := Lib.hid (SetAll_h hd (wp.wi + 2) (get_left (wp.g2 s T)) n)
  have q0 : w.drew.cell? ⟨tk, 1, none⟩ = some (.pointer (some ⟨c.wb, 0, none⟩)) ∧ w.drew.cell? ⟨c.wb, 1, none⟩ = some (.pointer (some ⟨c.rb, 0, none⟩)) ∧ w.drew.cell? ⟨nk, 0, none⟩ = some (.int .i64 n) := ⟨k1, v1, kn⟩
  clear h hd
  go_enter Try.func99, Try.ntmps99
  go_wp2_with fail
  refine wp_region_noPanic ?_
  refine AnyK.start (ks := [6]) (S := fun w' => w'.cell? ⟨tk, 1, none⟩ = some (.pointer (some ⟨c.wb, 0, none⟩)) ∧ w'.cell? ⟨c.wb, 1, none⟩ = some (.pointer (some ⟨c.rb, 0, none⟩)) ∧ w'.cell? ⟨nk, 0, none⟩ = some (.int .i64 n)) (by kernel_rfl) (by exact q0) (fun _ => ?_)
  refine AnyK.takeB (i := 0) (v := ?_) rfl (by kernel_rfl) (by kernel_rfl) (by kernel_rfl) (by kernel_rfl) (fun _ _ _ h => h) (Or.inl ⟨by rfl, ?_⟩) (by exact q0) ?_
  rotate_left
  focus
    intro w9 hSw
    try dsimp only at hSw
    go_simp
    try with_reducible rfl
  try simp only [Act.put, List.setIfInBounds_toArray, List.set_cons_zero, List.set_cons_succ]
  refine AnyK.takeB (i := 1) (v := ?_) rfl (by kernel_rfl) (by kernel_rfl) (by kernel_rfl) (by kernel_rfl) (fun _ _ _ h => h) (Or.inl ⟨by rfl, ?_⟩) (by exact q0) ?_
  rotate_left
  focus
    intro w9 hSw
    try dsimp only at hSw
    go_simp
    try with_reducible rfl
  try simp only [Act.put, List.setIfInBounds_toArray, List.set_cons_zero, List.set_cons_succ]
  refine AnyK.takeB (i := 2) (v := ?_) rfl (by kernel_rfl) (by kernel_rfl) (by kernel_rfl) (by kernel_rfl) (fun _ _ _ h => h) (Or.inl ⟨by rfl, ?_⟩) (by exact q0) ?_
  rotate_left
  focus
    intro w9 hSw
    try dsimp only at hSw
    go_simp
    try with_reducible rfl
  try simp only [Act.put, List.setIfInBounds_toArray, List.set_cons_zero, List.set_cons_succ]
  refine AnyK.takeB (i := 3) (v := ?_) rfl (by kernel_rfl) (by kernel_rfl) (by kernel_rfl) (by kernel_rfl) (fun _ _ _ h => h) (Or.inl ⟨by rfl, ?_⟩) (by exact q0) ?_
  rotate_left
  focus
    intro w9 hSw
    try dsimp only at hSw
    go_simp
    try with_reducible rfl
  try simp only [Act.put, List.setIfInBounds_toArray, List.set_cons_zero, List.set_cons_succ]
  refine AnyK.takeB (i := 4) (v := ?_) rfl (by kernel_rfl) (by kernel_rfl) (by kernel_rfl) (by kernel_rfl) (fun _ _ _ h => h) (Or.inl ⟨by rfl, ?_⟩) (by exact q0) ?_
  rotate_left
  focus
    intro w9 hSw
    try dsimp only at hSw
    go_simp
    try with_reducible rfl
  try simp only [Act.put, List.setIfInBounds_toArray, List.set_cons_zero, List.set_cons_succ]
  refine AnyK.takeB (i := 5) (v := ?_) rfl (by kernel_rfl) (by kernel_rfl) (by kernel_rfl) (by kernel_rfl) (fun _ _ _ h => h) (Or.inl ⟨by rfl, ?_⟩) (by exact q0) ?_
  rotate_left
  focus
    intro w9 hSw
    try dsimp only at hSw
    go_simp
    try with_reducible rfl
  try simp only [Act.put, List.setIfInBounds_toArray, List.set_cons_zero, List.set_cons_succ]
  refine AnyK.one (i := 6) (by kernel_rfl) rfl (fun K9 hK9 => ?_)
  go_simp
  refine C.out.mono ?_
  rintro e w' ⟨rfl, H⟩
  refine hK9.out _ _ (fun hx => absurd (by decide) hx) ?_
  clear hK9 K9
  try simp only [Act.put, List.setIfInBounds_toArray, List.set_cons_zero, List.set_cons_succ]
  refine AnyK.done (by kernel_rfl) ?_ _
  refine NoPanic.normal ?_
  rw [wp.setRt] at H
  have HF : Heap w0 w' (pl.F (aSetAll n s).2 T ++ X) := H
  go_wp2_with fail
  go_ret
  exact ⟨rfl, HF⟩
theorem info_touch (wp : WdPl pl c) (h : Heap w0 w (pl.F s T ++ X)) (ti : Nat) (hT : X[ti]? = some (tkP pl.tb c.wb tk me)) (ni : Nat) (r : Int) (hN : X[ni]? = some (blkP nk 29 #[.int .i64 r])) (ok : WdOk N s) (hN' : N ≤ 60000) :
    Calls Try.prog 96 #[.pointer (some ⟨tk, 0, none⟩), .pointer (some ⟨nk, 0, none⟩)] w fun e w' => e = .returned (.int .i64 (aInfo r s).1) ∧ Heap w0 w' (pl.F (aInfo r s).2 T ++ X) := by
  have hd : Heap w0 w.drew (pl.F s T ++ X) := h.drew
  obtain ⟨k0, k1, k2⟩ := tk_cells hd ti hT
  obtain ⟨v0, v1, v2, v3, v4, v5⟩ := wd_cells wp hd
  have kn : w.drew.cell? ⟨nk, 0, none⟩ = some (.int .i64 r) := (x_blk hd ni hN).cell 0
  have C := Lib.hid (Info_h hd (wp.wi + 1) (get_left (wp.g1 s T)) (ok.ar.small hN').1 r)
  have q0 : w.drew.cell? ⟨tk, 1, none⟩ = some (.pointer (some ⟨c.wb, 0, none⟩)) ∧ w.drew.cell? ⟨c.wb, 0, none⟩ = some (.pointer (some ⟨c.ab, 0, none⟩)) ∧ w.drew.cell? ⟨nk, 0, none⟩ = some (.int .i64 r) := ⟨k1, v0, kn⟩
  clear h hd
  go_enter Try.func96, Try.ntmps96
  go_wp2_with fail
  refine wp_region_noPanic ?_
  refine AnyK.start (ks := [6, 7]) (S := fun w' => w'.cell? ⟨tk, 1, none⟩ = some (.pointer (some ⟨c.wb, 0, none⟩)) ∧ w'.cell? ⟨c.wb, 0, none⟩ = some (.pointer (some ⟨c.ab, 0, none⟩)) ∧ w'.cell? ⟨nk, 0, none⟩ = some (.int .i64 r)) (by kernel_rfl) (by exact q0) (fun _ => ?_)
  refine AnyK.takeB (i := 0) (v := ?_) rfl (by kernel_rfl) (by kernel_rfl) (by kernel_rfl) (by kernel_rfl) (fun _ _ _ h => h) (Or.inl ⟨by rfl, ?_⟩) (by exact q0) ?_
  rotate_left
  focus
    intro w9 hSw
    try dsimp only at hSw
    go_simp
    try with_reducible rfl
  try simp only [Act.put, List.setIfInBounds_toArray, List.set_cons_zero, List.set_cons_succ]
  refine AnyK.takeB (i := 1) (v := ?_) rfl (by kernel_rfl) (by kernel_rfl) (by kernel_rfl) (by kernel_rfl) (fun _ _ _ h => h) (Or.inl ⟨by rfl, ?_⟩) (by exact q0) ?_
  rotate_left
  focus
    intro w9 hSw
    try dsimp only at hSw
    go_simp
    try with_reducible rfl
  try simp only [Act.put, List.setIfInBounds_toArray, List.set_cons_zero, List.set_cons_succ]
  refine AnyK.takeB (i := 2) (v := ?_) rfl (by kernel_rfl) (by kernel_rfl) (by kernel_rfl) (by kernel_rfl) (fun _ _ _ h => h) (Or.inl ⟨by rfl, ?_⟩) (by exact q0) ?_
  rotate_left
  focus
    intro w9 hSw
    try dsimp only at hSw
    go_simp
    try with_reducible rfl
  try simp only [Act.put, List.setIfInBounds_toArray, List.set_cons_zero, List.set_cons_succ]
  refine AnyK.takeB (i := 3) (v := ?_) rfl (by kernel_rfl) (by kernel_rfl) (by kernel_rfl) (by kernel_rfl) (fun _ _ _ h => h) (Or.inl ⟨by rfl, ?_⟩) (by exact q0) ?_
  rotate_left
  focus
    intro w9 hSw
    try dsimp only at hSw
    go_simp
    try with_reducible rfl
  try simp only [Act.put, List.setIfInBounds_toArray, List.set_cons_zero, List.set_cons_succ]
  refine AnyK.takeB (i := 4) (v := ?_) rfl (by kernel_rfl) (by kernel_rfl) (by kernel_rfl) (by kernel_rfl) (fun _ _ _ h => h) (Or.inl ⟨by rfl, ?_⟩) (by exact q0) ?_
  rotate_left
  focus
    intro w9 hSw
    try dsimp only at hSw
    go_simp
    try with_reducible rfl
  try simp only [Act.put, List.setIfInBounds_toArray, List.set_cons_zero, List.set_cons_succ]
  refine AnyK.takeB (i := 5) (v := ?_) rfl (by kernel_rfl) (by kernel_rfl) (by kernel_rfl) (by kernel_rfl) (fun _ _ _ h => h) (Or.inl ⟨by rfl, ?_⟩) (by exact q0) ?_
  rotate_left
  focus
    intro w9 hSw
    try dsimp only at hSw
    go_simp
    try with_reducible rfl
  try simp only [Act.put, List.setIfInBounds_toArray, List.set_cons_zero, List.set_cons_succ]
  refine AnyK.one (i := 6) (by kernel_rfl) rfl (fun K9 hK9 => ?_)
  go_simp
  refine C.out.mono ?_
  rintro e w' ⟨rfl, H⟩
  refine hK9.out _ _ (fun hx => absurd (by decide) hx) ?_
  clear hK9 K9
  try simp only [Act.put, List.setIfInBounds_toArray, List.set_cons_zero, List.set_cons_succ]
  refine AnyK.one (i := 7) (by kernel_rfl) rfl (fun K9 hK9 => ?_)
  go_simp
  refine hK9.out _ _ (fun hx => absurd (by decide) hx) ?_
  clear hK9 K9
  try simp only [Act.put, List.setIfInBounds_toArray, List.set_cons_zero, List.set_cons_succ]
  refine AnyK.done (by kernel_rfl) ?_ _
  refine NoPanic.normal ?_
  rw [wp.setAr] at H
  have HF : Heap w0 w' (pl.F (aInfo r s).2 T ++ X) := H
  go_wp2_with fail
  go_ret
  exact ⟨rfl, HF⟩
theorem setMark_touch (wp : WdPl pl c) (h : Heap w0 w (pl.F s T ++ X)) (ti : Nat) (hT : X[ti]? = some (tkP pl.tb c.wb tk me)) (ni : Nat) (r : Int) (hN : X[ni]? = some (blkP nk 29 #[.int .i64 r])) (ok : WdOk N s) (hN' : N ≤ 60000) :
    Calls Try.prog 100 #[.pointer (some ⟨tk, 0, none⟩), .pointer (some ⟨nk, 0, none⟩)] w fun e w' => e = .returned (.int .i64 0) ∧ Heap w0 w' (pl.F (aSetMark r s).2 T ++ X) := by
  have hd : Heap w0 w.drew (pl.F s T ++ X) := h.drew
  obtain ⟨k0, k1, k2⟩ := tk_cells hd ti hT
  obtain ⟨v0, v1, v2, v3, v4, v5⟩ := wd_cells wp hd
  have kn : w.drew.cell? ⟨nk, 0, none⟩ = some (.int .i64 r) := (x_blk hd ni hN).cell 0
  have C := Lib.hid (SetMark_h hd (wp.wi + 1) (get_left (wp.g1 s T)) (ok.ar.small hN').1 r)
  have q0 : w.drew.cell? ⟨tk, 1, none⟩ = some (.pointer (some ⟨c.wb, 0, none⟩)) ∧ w.drew.cell? ⟨c.wb, 0, none⟩ = some (.pointer (some ⟨c.ab, 0, none⟩)) ∧ w.drew.cell? ⟨nk, 0, none⟩ = some (.int .i64 r) := ⟨k1, v0, kn⟩
  clear h hd
  go_enter Try.func100, Try.ntmps100
  go_wp2_with fail
  refine wp_region_noPanic ?_
  refine AnyK.start (ks := [6]) (S := fun w' => w'.cell? ⟨tk, 1, none⟩ = some (.pointer (some ⟨c.wb, 0, none⟩)) ∧ w'.cell? ⟨c.wb, 0, none⟩ = some (.pointer (some ⟨c.ab, 0, none⟩)) ∧ w'.cell? ⟨nk, 0, none⟩ = some (.int .i64 r)) (by kernel_rfl) (by exact q0) (fun _ => ?_)
  refine AnyK.takeB (i := 0) (v := ?_) rfl (by kernel_rfl) (by kernel_rfl) (by kernel_rfl) (by kernel_rfl) (fun _ _ _ h => h) (Or.inl ⟨by rfl, ?_⟩) (by exact q0) ?_
  rotate_left
  focus
    intro w9 hSw
    try dsimp only at hSw
    go_simp
    try with_reducible rfl
  try simp only [Act.put, List.setIfInBounds_toArray, List.set_cons_zero, List.set_cons_succ]
  refine AnyK.takeB (i := 1) (v := ?_) rfl (by kernel_rfl) (by kernel_rfl) (by kernel_rfl) (by kernel_rfl) (fun _ _ _ h => h) (Or.inl ⟨by rfl, ?_⟩) (by exact q0) ?_
  rotate_left
  focus
    intro w9 hSw
    try dsimp only at hSw
    go_simp
    try with_reducible rfl
  try simp only [Act.put, List.setIfInBounds_toArray, List.set_cons_zero, List.set_cons_succ]
  refine AnyK.takeB (i := 2) (v := ?_) rfl (by kernel_rfl) (by kernel_rfl) (by kernel_rfl) (by kernel_rfl) (fun _ _ _ h => h) (Or.inl ⟨by rfl, ?_⟩) (by exact q0) ?_
  rotate_left
  focus
    intro w9 hSw
    try dsimp only at hSw
    go_simp
    try with_reducible rfl
  try simp only [Act.put, List.setIfInBounds_toArray, List.set_cons_zero, List.set_cons_succ]
  refine AnyK.takeB (i := 3) (v := ?_) rfl (by kernel_rfl) (by kernel_rfl) (by kernel_rfl) (by kernel_rfl) (fun _ _ _ h => h) (Or.inl ⟨by rfl, ?_⟩) (by exact q0) ?_
  rotate_left
  focus
    intro w9 hSw
    try dsimp only at hSw
    go_simp
    try with_reducible rfl
  try simp only [Act.put, List.setIfInBounds_toArray, List.set_cons_zero, List.set_cons_succ]
  refine AnyK.takeB (i := 4) (v := ?_) rfl (by kernel_rfl) (by kernel_rfl) (by kernel_rfl) (by kernel_rfl) (fun _ _ _ h => h) (Or.inl ⟨by rfl, ?_⟩) (by exact q0) ?_
  rotate_left
  focus
    intro w9 hSw
    try dsimp only at hSw
    go_simp
    try with_reducible rfl
  try simp only [Act.put, List.setIfInBounds_toArray, List.set_cons_zero, List.set_cons_succ]
  refine AnyK.takeB (i := 5) (v := ?_) rfl (by kernel_rfl) (by kernel_rfl) (by kernel_rfl) (by kernel_rfl) (fun _ _ _ h => h) (Or.inl ⟨by rfl, ?_⟩) (by exact q0) ?_
  rotate_left
  focus
    intro w9 hSw
    try dsimp only at hSw
    go_simp
    try with_reducible rfl
  try simp only [Act.put, List.setIfInBounds_toArray, List.set_cons_zero, List.set_cons_succ]
  refine AnyK.one (i := 6) (by kernel_rfl) rfl (fun K9 hK9 => ?_)
  go_simp
  refine C.out.mono ?_
  rintro e w' ⟨rfl, H⟩
  refine hK9.out _ _ (fun hx => absurd (by decide) hx) ?_
  clear hK9 K9
  try simp only [Act.put, List.setIfInBounds_toArray, List.set_cons_zero, List.set_cons_succ]
  refine AnyK.done (by kernel_rfl) ?_ _
  refine NoPanic.normal ?_
  rw [wp.setAr] at H
  have HF : Heap w0 w' (pl.F (aSetMark r s).2 T ++ X) := H
  go_wp2_with fail
  go_ret
  exact ⟨rfl, HF⟩
theorem swapInfo_touch (wp : WdPl pl c) (h : Heap w0 w (pl.F s T ++ X)) (ti : Nat) (hT : X[ti]? = some (tkP pl.tb c.wb tk me)) (ni : Nat) (r : Int) (hN : X[ni]? = some (blkP nk 29 #[.int .i64 r])) (ri : Nat) {rk : Nat} {vn vi u2 u3 u4 u5 : Value} (hR : X[ri]? = some (blkP rk 78 #[vn, vi, u2, u3, u4, u5])) (ii : Nat) {ik : Nat} (i : Nat) (hI : X[ii]? = some (blkP ik 3 #[.int .i64 (i : Nat)])) (mi : Nat) (n : Int) (hM : X[mi]? = some (blkP mk 2 #[.int .i64 n]))
    (infos : List Int) (old : Int) (hio : infos[i]? = some old) (hil : infos.length ≤ 1000000) (rd : ∀ z (L : List Piece), Heap w0 z (L ++ X) → RdV z vi infos.length 1 (intC infos)) (ok : WdOk N s) (hN' : N ≤ 60000) :
    Calls Try.prog 95 #[.pointer (some ⟨tk, 0, none⟩), .pointer (some ⟨nk, 0, none⟩), .pointer (some ⟨rk, 0, none⟩), .pointer (some ⟨ik, 0, none⟩), .pointer (some ⟨mk, 0, none⟩)] w fun e w' => e = .returned (.bool (swapInfoAr r old n s.ar).1) ∧ Heap w0 w' (pl.F (aSwapInfo r old n s).2 T ++ X) := by
  have hd : Heap w0 w.drew (pl.F s T ++ X) := h.drew
  obtain ⟨k0, k1, k2⟩ := tk_cells hd ti hT
  obtain ⟨v0, v1, v2, v3, v4, v5⟩ := wd_cells wp hd
  have kn : w.drew.cell? ⟨nk, 0, none⟩ = some (.int .i64 r) := (x_blk hd ni hN).cell 0
  obtain ⟨pa, pc, rfl⟩ := (rd _ _ hd).len
  have hil' : i < infos.length := (List.getElem?_eq_some_iff.1 hio).1
  obtain ⟨a1, ea, hc1, hat⟩ := (rd _ _ hd).at (by omega)
  subst ea
  have ke : w.drew.cell? (a1.add i) = some (.int .i64 old) := hat i _ (by simp [intC, hio])
  have kr : w.drew.cell? ⟨rk, 1, none⟩ = some (.slice (some a1) infos.length pc) := (x_blk hd ri hR).cell 1
  have ki : w.drew.cell? ⟨ik, 0, none⟩ = some (.int .i64 (i : Nat)) := (x_blk hd ii hI).cell 0
  have km : w.drew.cell? ⟨mk, 0, none⟩ = some (.int .i64 n) := (x_blk hd mi hM).cell 0
  clear hat hio hc1 rd
  have C := Lib.hid (SwapInfo_h hd (wp.wi + 1) (get_left (wp.g1 s T)) (ok.ar.small hN').1 r old n)
  have q0 : w.drew.cell? ⟨tk, 1, none⟩ = some (.pointer (some ⟨c.wb, 0, none⟩)) ∧ w.drew.cell? ⟨c.wb, 0, none⟩ = some (.pointer (some ⟨c.ab, 0, none⟩)) ∧ w.drew.cell? ⟨nk, 0, none⟩ = some (.int .i64 r) ∧ w.drew.cell? ⟨rk, 1, none⟩ = some (.slice (some a1) infos.length pc) ∧ w.drew.cell? ⟨ik, 0, none⟩ = some (.int .i64 (i : Nat)) ∧ w.drew.cell? (a1.add i) = some (.int .i64 old) ∧ w.drew.cell? ⟨mk, 0, none⟩ = some (.int .i64 n) := ⟨k1, v0, kn, kr, ki, ke, km⟩
  clear h hd
  go_enter Try.func95, Try.ntmps95
  go_wp2_with fail
  refine wp_region_noPanic ?_
  refine AnyK.start (ks := [12, 13]) (S := fun w' => w'.cell? ⟨tk, 1, none⟩ = some (.pointer (some ⟨c.wb, 0, none⟩)) ∧ w'.cell? ⟨c.wb, 0, none⟩ = some (.pointer (some ⟨c.ab, 0, none⟩)) ∧ w'.cell? ⟨nk, 0, none⟩ = some (.int .i64 r) ∧ w'.cell? ⟨rk, 1, none⟩ = some (.slice (some a1) infos.length pc) ∧ w'.cell? ⟨ik, 0, none⟩ = some (.int .i64 (i : Nat)) ∧ w'.cell? (a1.add i) = some (.int .i64 old) ∧ w'.cell? ⟨mk, 0, none⟩ = some (.int .i64 n)) (by kernel_rfl) (by exact q0) (fun _ => ?_)
  refine AnyK.takeB (i := 0) (v := ?_) rfl (by kernel_rfl) (by kernel_rfl) (by kernel_rfl) (by kernel_rfl) (fun _ _ _ h => h) (Or.inl ⟨by rfl, ?_⟩) (by exact q0) ?_
  rotate_left
  focus
    intro w9 hSw
    try dsimp only at hSw
    go_simp
    try with_reducible rfl
  try simp only [Act.put, List.setIfInBounds_toArray, List.set_cons_zero, List.set_cons_succ]
  refine AnyK.takeB (i := 1) (v := ?_) rfl (by kernel_rfl) (by kernel_rfl) (by kernel_rfl) (by kernel_rfl) (fun _ _ _ h => h) (Or.inl ⟨by rfl, ?_⟩) (by exact q0) ?_
  rotate_left
  focus
    intro w9 hSw
    try dsimp only at hSw
    go_simp
    try with_reducible rfl
  try simp only [Act.put, List.setIfInBounds_toArray, List.set_cons_zero, List.set_cons_succ]
  refine AnyK.takeB (i := 2) (v := ?_) rfl (by kernel_rfl) (by kernel_rfl) (by kernel_rfl) (by kernel_rfl) (fun _ _ _ h => h) (Or.inl ⟨by rfl, ?_⟩) (by exact q0) ?_
  rotate_left
  focus
    intro w9 hSw
    try dsimp only at hSw
    go_simp
    try with_reducible rfl
  try simp only [Act.put, List.setIfInBounds_toArray, List.set_cons_zero, List.set_cons_succ]
  refine AnyK.takeB (i := 3) (v := ?_) rfl (by kernel_rfl) (by kernel_rfl) (by kernel_rfl) (by kernel_rfl) (fun _ _ _ h => h) (Or.inl ⟨by rfl, ?_⟩) (by exact q0) ?_
  rotate_left
  focus
    intro w9 hSw
    try dsimp only at hSw
    go_simp
    try with_reducible rfl
  try simp only [Act.put, List.setIfInBounds_toArray, List.set_cons_zero, List.set_cons_succ]
  refine AnyK.takeB (i := 4) (v := ?_) rfl (by kernel_rfl) (by kernel_rfl) (by kernel_rfl) (by kernel_rfl) (fun _ _ _ h => h) (Or.inl ⟨by rfl, ?_⟩) (by exact q0) ?_
  rotate_left
  focus
    intro w9 hSw
    try dsimp only at hSw
    go_simp
    try with_reducible rfl
  try simp only [Act.put, List.setIfInBounds_toArray, List.set_cons_zero, List.set_cons_succ]
  refine AnyK.takeB (i := 5) (v := ?_) rfl (by kernel_rfl) (by kernel_rfl) (by kernel_rfl) (by kernel_rfl) (fun _ _ _ h => h) (Or.inl ⟨by rfl, ?_⟩) (by exact q0) ?_
  rotate_left
  focus
    intro w9 hSw
    try dsimp only at hSw
    go_simp
    try with_reducible rfl
  try simp only [Act.put, List.setIfInBounds_toArray, List.set_cons_zero, List.set_cons_succ]
  refine AnyK.takeB (i := 6) (v := ?_) rfl (by kernel_rfl) (by kernel_rfl) (by kernel_rfl) (by kernel_rfl) (fun _ _ _ h => h) (Or.inl ⟨by rfl, ?_⟩) (by exact q0) ?_
  rotate_left
  focus
    intro w9 hSw
    try dsimp only at hSw
    go_simp
    try with_reducible rfl
  try simp only [Act.put, List.setIfInBounds_toArray, List.set_cons_zero, List.set_cons_succ]
  refine AnyK.takeB (i := 7) (v := ?_) rfl (by kernel_rfl) (by kernel_rfl) (by kernel_rfl) (by kernel_rfl) (fun _ _ _ h => h) (Or.inl ⟨by rfl, ?_⟩) (by exact q0) ?_
  rotate_left
  focus
    intro w9 hSw
    try dsimp only at hSw
    go_simp
    try with_reducible rfl
  try simp only [Act.put, List.setIfInBounds_toArray, List.set_cons_zero, List.set_cons_succ]
  refine AnyK.takeB (i := 8) (v := ?_) rfl (by kernel_rfl) (by kernel_rfl) (by kernel_rfl) (by kernel_rfl) (fun _ _ _ h => h) (Or.inl ⟨by rfl, ?_⟩) (by exact q0) ?_
  rotate_left
  focus
    intro w9 hSw
    try dsimp only at hSw
    go_simp
    try with_reducible rfl
  try simp only [Act.put, List.setIfInBounds_toArray, List.set_cons_zero, List.set_cons_succ]
  refine AnyK.takeB (i := 9) (v := ?_) rfl (by kernel_rfl) (by kernel_rfl) (by kernel_rfl) (by kernel_rfl) (fun _ _ _ h => h) (Or.inl ⟨by rfl, ?_⟩) (by exact q0) ?_
  rotate_left
  focus
    intro w9 hSw
    try dsimp only at hSw
    go_simp
    try with_reducible rfl
  try simp only [Act.put, List.setIfInBounds_toArray, List.set_cons_zero, List.set_cons_succ]
  refine AnyK.takeB (i := 10) (v := ?_) rfl (by kernel_rfl) (by kernel_rfl) (by kernel_rfl) (by kernel_rfl) (fun _ _ _ h => h) (Or.inl ⟨by rfl, ?_⟩) (by exact q0) ?_
  rotate_left
  focus
    intro w9 hSw
    try dsimp only at hSw
    go_simp
    try with_reducible rfl
  try simp only [Act.put, List.setIfInBounds_toArray, List.set_cons_zero, List.set_cons_succ]
  refine AnyK.takeB (i := 11) (v := ?_) rfl (by kernel_rfl) (by kernel_rfl) (by kernel_rfl) (by kernel_rfl) (fun _ _ _ h => h) (Or.inl ⟨by rfl, ?_⟩) (by exact q0) ?_
  rotate_left
  focus
    intro w9 hSw
    try dsimp only at hSw
    go_simp
    try with_reducible rfl
  try simp only [Act.put, List.setIfInBounds_toArray, List.set_cons_zero, List.set_cons_succ]
  refine AnyK.one (i := 12) (by kernel_rfl) rfl (fun K9 hK9 => ?_)
  go_simp
  refine C.out.mono ?_
  rintro e w' ⟨rfl, H⟩
  refine hK9.out _ _ (fun hx => absurd (by decide) hx) ?_
  clear hK9 K9
  try simp only [Act.put, List.setIfInBounds_toArray, List.set_cons_zero, List.set_cons_succ]
  refine AnyK.one (i := 13) (by kernel_rfl) rfl (fun K9 hK9 => ?_)
  go_simp
  refine hK9.out _ _ (fun hx => absurd (by decide) hx) ?_
  clear hK9 K9
  try simp only [Act.put, List.setIfInBounds_toArray, List.set_cons_zero, List.set_cons_succ]
  refine AnyK.done (by kernel_rfl) ?_ _
  refine NoPanic.normal ?_
  rw [wp.setAr] at H
  have HF : Heap w0 w' (pl.F (aSwapInfo r old n s).2 T ++ X) := H
  go_wp2_with fail
  go_ret
  exact ⟨rfl, HF⟩
theorem swapWay_touch (wp : WdPl pl c) (h : Heap w0 w (pl.F s T ++ X)) (ti : Nat) (hT : X[ti]? = some (tkP pl.tb c.wb tk me)) (ri : Nat) {rk : Nat} {vn vi : Value} (cc : Rc) (hR : X[ri]? = some (blkP rk 78 #[vn, vi, .int .i64 cc.keep, .int .i64 cc.way, .int .i64 cc.old, .int .i64 cc.new])) (r : Int) (hio : cc.nodes[0]? = some r) (hil : cc.nodes.length ≤ 1000000) (rd : ∀ z (L : List Piece), Heap w0 z (L ++ X) → RdV z vn cc.nodes.length 1 (intC cc.nodes)) (ok : WdOk N s) (hN' : N ≤ 60000) :
    Calls Try.prog 102 #[.pointer (some ⟨tk, 0, none⟩), .pointer (some ⟨rk, 0, none⟩)] w fun e w' => e = .returned (.bool (swapWayAr r cc.way cc.old cc.new s.ar).1) ∧ Heap w0 w' (pl.F (aSwapWay r cc.way cc.old cc.new s).2 T ++ X) := by
  have hd : Heap w0 w.drew (pl.F s T ++ X) := h.drew
  obtain ⟨k0, k1, k2⟩ := tk_cells hd ti hT
  obtain ⟨v0, v1, v2, v3, v4, v5⟩ := wd_cells wp hd
  obtain ⟨pa, pc, rfl⟩ := (rd _ _ hd).len
  have hil' : 0 < cc.nodes.length := (List.getElem?_eq_some_iff.1 hio).1
  obtain ⟨a1, ea, hc1, hat⟩ := (rd _ _ hd).at (by omega)
  subst ea
  have ke : w.drew.cell? a1 = some (.int .i64 r) := hat 0 (.int .i64 r) (by simp [intC, hio])
  have kr : w.drew.cell? ⟨rk, 0, none⟩ = some (.slice (some a1) cc.nodes.length pc) := (x_blk hd ri hR).cell 0
  have k3 : w.drew.cell? ⟨rk, 3, none⟩ = some (.int .i64 cc.way) := (x_blk hd ri hR).cell 3
  have k4 : w.drew.cell? ⟨rk, 4, none⟩ = some (.int .i64 cc.old) := (x_blk hd ri hR).cell 4
  have k5 : w.drew.cell? ⟨rk, 5, none⟩ = some (.int .i64 cc.new) := (x_blk hd ri hR).cell 5
  clear hat hio hc1 rd
  have C := Lib.hid (SwapWay_h hd (wp.wi + 1) (get_left (wp.g1 s T)) (ok.ar.small hN').1 r cc.way cc.old cc.new)
  have q0 : w.drew.cell? ⟨tk, 1, none⟩ = some (.pointer (some ⟨c.wb, 0, none⟩)) ∧ w.drew.cell? ⟨c.wb, 0, none⟩ = some (.pointer (some ⟨c.ab, 0, none⟩)) ∧ w.drew.cell? ⟨rk, 0, none⟩ = some (.slice (some a1) cc.nodes.length pc) ∧ w.drew.cell? a1 = some (.int .i64 r) ∧ w.drew.cell? ⟨rk, 3, none⟩ = some (.int .i64 cc.way) ∧ w.drew.cell? ⟨rk, 4, none⟩ = some (.int .i64 cc.old) ∧ w.drew.cell? ⟨rk, 5, none⟩ = some (.int .i64 cc.new) := ⟨k1, v0, kr, ke, k3, k4, k5⟩
  clear h hd
  go_enter Try.func102, Try.ntmps102
  go_wp2_with fail
  refine wp_region_noPanic ?_
  refine AnyK.start (ks := [15, 16]) (S := fun w' => w'.cell? ⟨tk, 1, none⟩ = some (.pointer (some ⟨c.wb, 0, none⟩)) ∧ w'.cell? ⟨c.wb, 0, none⟩ = some (.pointer (some ⟨c.ab, 0, none⟩)) ∧ w'.cell? ⟨rk, 0, none⟩ = some (.slice (some a1) cc.nodes.length pc) ∧ w'.cell? a1 = some (.int .i64 r) ∧ w'.cell? ⟨rk, 3, none⟩ = some (.int .i64 cc.way) ∧ w'.cell? ⟨rk, 4, none⟩ = some (.int .i64 cc.old) ∧ w'.cell? ⟨rk, 5, none⟩ = some (.int .i64 cc.new)) (by kernel_rfl) (by exact q0) (fun _ => ?_)
  refine AnyK.takeB (i := 0) (v := ?_) rfl (by kernel_rfl) (by kernel_rfl) (by kernel_rfl) (by kernel_rfl) (fun _ _ _ h => h) (Or.inl ⟨by rfl, ?_⟩) (by exact q0) ?_
  rotate_left
  focus
    intro w9 hSw
    try dsimp only at hSw
    go_simp
    try with_reducible rfl
  try simp only [Act.put, List.setIfInBounds_toArray, List.set_cons_zero, List.set_cons_succ]
  refine AnyK.takeB (i := 1) (v := ?_) rfl (by kernel_rfl) (by kernel_rfl) (by kernel_rfl) (by kernel_rfl) (fun _ _ _ h => h) (Or.inl ⟨by rfl, ?_⟩) (by exact q0) ?_
  rotate_left
  focus
    intro w9 hSw
    try dsimp only at hSw
    go_simp
    try with_reducible rfl
  try simp only [Act.put, List.setIfInBounds_toArray, List.set_cons_zero, List.set_cons_succ]
  refine AnyK.takeB (i := 2) (v := ?_) rfl (by kernel_rfl) (by kernel_rfl) (by kernel_rfl) (by kernel_rfl) (fun _ _ _ h => h) (Or.inl ⟨by rfl, ?_⟩) (by exact q0) ?_
  rotate_left
  focus
    intro w9 hSw
    try dsimp only at hSw
    go_simp
    try with_reducible rfl
  try simp only [Act.put, List.setIfInBounds_toArray, List.set_cons_zero, List.set_cons_succ]
  refine AnyK.takeB (i := 3) (v := ?_) rfl (by kernel_rfl) (by kernel_rfl) (by kernel_rfl) (by kernel_rfl) (fun _ _ _ h => h) (Or.inl ⟨by rfl, ?_⟩) (by exact q0) ?_
  rotate_left
  focus
    intro w9 hSw
    try dsimp only at hSw
    go_simp
    try with_reducible rfl
  try simp only [Act.put, List.setIfInBounds_toArray, List.set_cons_zero, List.set_cons_succ]
  refine AnyK.takeB (i := 4) (v := ?_) rfl (by kernel_rfl) (by kernel_rfl) (by kernel_rfl) (by kernel_rfl) (fun _ _ _ h => h) (Or.inl ⟨by rfl, ?_⟩) (by exact q0) ?_
  rotate_left
  focus
    intro w9 hSw
    try dsimp only at hSw
    go_simp
    try with_reducible rfl
  try simp only [Act.put, List.setIfInBounds_toArray, List.set_cons_zero, List.set_cons_succ]
  refine AnyK.takeB (i := 5) (v := ?_) rfl (by kernel_rfl) (by kernel_rfl) (by kernel_rfl) (by kernel_rfl) (fun _ _ _ h => h) (Or.inl ⟨by rfl, ?_⟩) (by exact q0) ?_
  rotate_left
  focus
    intro w9 hSw
    try dsimp only at hSw
    go_simp
    try with_reducible rfl
  try simp only [Act.put, List.setIfInBounds_toArray, List.set_cons_zero, List.set_cons_succ]
  refine AnyK.takeB (i := 6) (v := ?_) rfl (by kernel_rfl) (by kernel_rfl) (by kernel_rfl) (by kernel_rfl) (fun _ _ _ h => h) (Or.inl ⟨by rfl, ?_⟩) (by exact q0) ?_
  rotate_left
  focus
    intro w9 hSw
    try dsimp only at hSw
    go_simp
    try with_reducible rfl
  try simp only [Act.put, List.setIfInBounds_toArray, List.set_cons_zero, List.set_cons_succ]
  refine AnyK.takeB (i := 7) (v := ?_) rfl (by kernel_rfl) (by kernel_rfl) (by kernel_rfl) (by kernel_rfl) (fun _ _ _ h => h) (Or.inl ⟨by rfl, ?_⟩) (by exact q0) ?_
  rotate_left
  focus
    intro w9 hSw
    try dsimp only at hSw
    go_simp
    try with_reducible rfl
  try simp only [Act.put, List.setIfInBounds_toArray, List.set_cons_zero, List.set_cons_succ]
  refine AnyK.takeB (i := 8) (v := ?_) rfl (by kernel_rfl) (by kernel_rfl) (by kernel_rfl) (by kernel_rfl) (fun _ _ _ h => h) (Or.inl ⟨by rfl, ?_⟩) (by exact q0) ?_
  rotate_left
  focus
    intro w9 hSw
    try dsimp only at hSw
    go_simp
    try with_reducible rfl
  try simp only [Act.put, List.setIfInBounds_toArray, List.set_cons_zero, List.set_cons_succ]
  refine AnyK.takeB (i := 9) (v := ?_) rfl (by kernel_rfl) (by kernel_rfl) (by kernel_rfl) (by kernel_rfl) (fun _ _ _ h => h) (Or.inl ⟨by rfl, ?_⟩) (by exact q0) ?_
  rotate_left
  focus
    intro w9 hSw
    try dsimp only at hSw
    go_simp
    try with_reducible rfl
  try simp only [Act.put, List.setIfInBounds_toArray, List.set_cons_zero, List.set_cons_succ]
  refine AnyK.takeB (i := 10) (v := ?_) rfl (by kernel_rfl) (by kernel_rfl) (by kernel_rfl) (by kernel_rfl) (fun _ _ _ h => h) (Or.inl ⟨by rfl, ?_⟩) (by exact q0) ?_
  rotate_left
  focus
    intro w9 hSw
    try dsimp only at hSw
    go_simp
    try with_reducible rfl
  try simp only [Act.put, List.setIfInBounds_toArray, List.set_cons_zero, List.set_cons_succ]
  refine AnyK.takeB (i := 11) (v := ?_) rfl (by kernel_rfl) (by kernel_rfl) (by kernel_rfl) (by kernel_rfl) (fun _ _ _ h => h) (Or.inl ⟨by rfl, ?_⟩) (by exact q0) ?_
  rotate_left
  focus
    intro w9 hSw
    try dsimp only at hSw
    go_simp
    try with_reducible rfl
  try simp only [Act.put, List.setIfInBounds_toArray, List.set_cons_zero, List.set_cons_succ]
  refine AnyK.takeB (i := 12) (v := ?_) rfl (by kernel_rfl) (by kernel_rfl) (by kernel_rfl) (by kernel_rfl) (fun _ _ _ h => h) (Or.inl ⟨by rfl, ?_⟩) (by exact q0) ?_
  rotate_left
  focus
    intro w9 hSw
    try dsimp only at hSw
    go_simp
    try with_reducible rfl
  try simp only [Act.put, List.setIfInBounds_toArray, List.set_cons_zero, List.set_cons_succ]
  refine AnyK.takeB (i := 13) (v := ?_) rfl (by kernel_rfl) (by kernel_rfl) (by kernel_rfl) (by kernel_rfl) (fun _ _ _ h => h) (Or.inl ⟨by rfl, ?_⟩) (by exact q0) ?_
  rotate_left
  focus
    intro w9 hSw
    try dsimp only at hSw
    go_simp
    try with_reducible rfl
  try simp only [Act.put, List.setIfInBounds_toArray, List.set_cons_zero, List.set_cons_succ]
  refine AnyK.takeB (i := 14) (v := ?_) rfl (by kernel_rfl) (by kernel_rfl) (by kernel_rfl) (by kernel_rfl) (fun _ _ _ h => h) (Or.inl ⟨by rfl, ?_⟩) (by exact q0) ?_
  rotate_left
  focus
    intro w9 hSw
    try dsimp only at hSw
    go_simp
    try with_reducible rfl
  try simp only [Act.put, List.setIfInBounds_toArray, List.set_cons_zero, List.set_cons_succ]
  refine AnyK.one (i := 15) (by kernel_rfl) rfl (fun K9 hK9 => ?_)
  go_simp
  refine C.out.mono ?_
  rintro e w' ⟨rfl, H⟩
  refine hK9.out _ _ (fun hx => absurd (by decide) hx) ?_
  clear hK9 K9
  try simp only [Act.put, List.setIfInBounds_toArray, List.set_cons_zero, List.set_cons_succ]
  refine AnyK.one (i := 16) (by kernel_rfl) rfl (fun K9 hK9 => ?_)
  go_simp
  refine hK9.out _ _ (fun hx => absurd (by decide) hx) ?_
  clear hK9 K9
  try simp only [Act.put, List.setIfInBounds_toArray, List.set_cons_zero, List.set_cons_succ]
  refine AnyK.done (by kernel_rfl) ?_ _
  refine NoPanic.normal ?_
  rw [wp.setAr] at H
  have HF : Heap w0 w' (pl.F (aSwapWay r cc.way cc.old cc.new s).2 T ++ X) := H
  go_wp2_with fail
  go_ret
  exact ⟨rfl, HF⟩
end
end Go.Proofs.Ythkohomogknddaa
