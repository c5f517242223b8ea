/- The touches of a world's task: Begin's, End's, Make's, Drop's, Leave's. No condition but the bounds of size. -/
import Derived.Test.YthkohomogknddaaWld
import Derived.Test.YthkohomogknddaaK1
namespace Go.Proofs.Ythkohomogknddaa
open Go Go.RowKit
set_option linter.unusedVariables false
set_option linter.unusedSimpArgs false
set_option maxRecDepth 100000
/-- A task's block: its thread, its world, which thread it is. -/
def tkP (tb wb tk : Nat) (me : Int) : Piece := blkP tk 41 #[.pointer (some ⟨tb, 0, none⟩), .pointer (some ⟨wb, 0, none⟩), .int .i64 me]
section
variable {w0 w : World} {pl : Pl Wd} {X : List Piece} {s : Wd} {T : Th} {c : Wc} {tk nk N : Nat} {me now : Int}
theorem wd_cells (wp : WdPl pl c) (h : Heap w0 w (pl.F s T ++ X)) : w.cell? ⟨c.wb, 0, none⟩ = some (.pointer (some ⟨c.ab, 0, none⟩)) ∧ w.cell? ⟨c.wb, 1, none⟩ = some (.pointer (some ⟨c.rb, 0, none⟩)) ∧ w.cell? ⟨c.wb, 2, none⟩ = some (.pointer (some ⟨c.eb, 0, none⟩)) ∧ w.cell? ⟨c.wb, 3, none⟩ = some (.int .i64 c.a) ∧ w.cell? ⟨c.wb, 4, none⟩ = some (.int .i64 c.b) ∧ w.cell? ⟨c.wb, 5, none⟩ = some (.int .i64 c.entry) := by
  have B := h.blk wp.wi (get_left (wp.g0 s T))
  exact ⟨B.cell 0, B.cell 1, B.cell 2, B.cell 3, B.cell 4, B.cell 5⟩
theorem x_get {l X : List Piece} {i : Nat} {p : Piece} (h : X[i]? = some p) : (l ++ X)[l.length + i]? = some p := by
  rw [List.getElem?_append_right (by omega)]; simpa using h
theorem tk_cells {l : List Piece} {tb wb : Nat} (h : Heap w0 w (l ++ X)) (i : Nat) (hi : X[i]? = some (tkP tb wb tk me)) : w.cell? ⟨tk, 0, none⟩ = some (.pointer (some ⟨tb, 0, none⟩)) ∧ w.cell? ⟨tk, 1, none⟩ = some (.pointer (some ⟨wb, 0, none⟩)) ∧ w.cell? ⟨tk, 2, none⟩ = some (.int .i64 me) := by
  have B := h.blk _ (x_get hi)
  exact ⟨B.cell 0, B.cell 1, B.cell 2⟩
theorem x_blk {l : List Piece} {b : Nat} {t : TypeId} {cs : Array Value} (h : Heap w0 w (l ++ X)) (i : Nat) (hi : X[i]? = some (blkP b t cs)) : Blk w b t cs := h.blk _ (x_get hi)
theorem WdPl.setEp (wp : WdPl pl c) (x : Ep) : (pl.F s T ++ X).set (wp.wi + 3) (epoP c.eb x) = pl.F { s with ep := x } T ++ X := by
  rw [List.set_append_left _ _ (List.getElem?_eq_some_iff.1 (wp.g3 s T)).1, wp.p3]
theorem WdPl.setAr (wp : WdPl pl c) (x : Ar) : (pl.F s T ++ X).set (wp.wi + 1) (areP c.ab x) = pl.F { s with ar := x } T ++ X := by
  rw [List.set_append_left _ _ (List.getElem?_eq_some_iff.1 (wp.g1 s T)).1, wp.p1]
theorem WdPl.setRt (wp : WdPl pl c) (x : Rt) : (pl.F s T ++ X).set (wp.wi + 2) (tabP c.rb x) = pl.F { s with rt := x } T ++ X := by
  rw [List.set_append_left _ _ (List.getElem?_eq_some_iff.1 (wp.g2 s T)).1, wp.p2]
theorem OkN.small {ar : Ar} {N : Nat} (h : OkN ar N) (hN : N ≤ 60000) : OkAr ar ∧ ar.free.length ≤ 100000 ∧ (∀ s ∈ ar.slots, s.nd.few) ∧ MoreAr ar := ⟨h.ok hN, by have := h.frees; omega, h.nds, h.more hN⟩
theorem say_touch (wp : WdPl pl c) (h : Heap w0 w (pl.F s T ++ X)) (ti : Nat) (hT : X[ti]? = some (tkP pl.tb c.wb tk me)) (ni : Nat) (hN : X[ni]? = some (blkP nk 2 #[.int .i64 now])) :
    Calls Try.prog 70 #[.pointer (some ⟨tk, 0, none⟩), .pointer (some ⟨nk, 0, none⟩)] w fun e w' => e = .returned (.int .i64 0) ∧ Heap w0 w' (pl.F (aSay me now s).2 T ++ X) := by
  have hd : Heap w0 w.drew (pl.F s T ++ X) := h.drew
  obtain ⟨k0, k1, k2⟩ := tk_cells hd ti hT
  obtain ⟨v0, v1, v2, v3, v4, v5⟩ := wd_cells wp hd
  have kn : w.drew.cell? ⟨nk, 0, none⟩ = some (.int .i64 now) := (x_blk hd ni hN).cell 0
  have C := Lib.hid (Say_h hd (wp.wi + 3) (get_left (wp.g3 s T)) me now)
  have q0 : w.drew.cell? ⟨tk, 1, none⟩ = some (.pointer (some ⟨c.wb, 0, none⟩)) ∧ w.drew.cell? ⟨tk, 2, none⟩ = some (.int .i64 me) ∧ w.drew.cell? ⟨c.wb, 2, none⟩ = some (.pointer (some ⟨c.eb, 0, none⟩)) ∧ w.drew.cell? ⟨nk, 0, none⟩ = some (.int .i64 now) := ⟨k1, k2, v2, kn⟩
  clear h hd
  go_enter Try.func70, Try.ntmps70
  go_wp2_with fail
  refine wp_region_noPanic ?_
  refine AnyK.start (ks := [8]) (S := fun w' => w'.cell? ⟨tk, 1, none⟩ = some (.pointer (some ⟨c.wb, 0, none⟩)) ∧ w'.cell? ⟨tk, 2, none⟩ = some (.int .i64 me) ∧ w'.cell? ⟨c.wb, 2, none⟩ = some (.pointer (some ⟨c.eb, 0, none⟩)) ∧ w'.cell? ⟨nk, 0, none⟩ = some (.int .i64 now)) (by kernel_rfl) (by exact q0) (fun _ => ?_)
  refine AnyK.takeB (i := 0) (v := ?_) rfl (by kernel_rfl) (by kernel_rfl) (by kernel_rfl) (by kernel_rfl) (fun _ _ _ h => h) (Or.inl ⟨by rfl, ?_⟩) (by exact q0) ?_
  rotate_left
  focus
    intro w9 hSw
    try dsimp only at hSw
    go_simp
    try with_reducible rfl
  try simp only [Act.put, List.setIfInBounds_toArray, List.set_cons_zero, List.set_cons_succ]
  refine AnyK.takeB (i := 1) (v := ?_) rfl (by kernel_rfl) (by kernel_rfl) (by kernel_rfl) (by kernel_rfl) (fun _ _ _ h => h) (Or.inl ⟨by rfl, ?_⟩) (by exact q0) ?_
  rotate_left
  focus
    intro w9 hSw
    try dsimp only at hSw
    go_simp
    try with_reducible rfl
  try simp only [Act.put, List.setIfInBounds_toArray, List.set_cons_zero, List.set_cons_succ]
  refine AnyK.takeB (i := 2) (v := ?_) rfl (by kernel_rfl) (by kernel_rfl) (by kernel_rfl) (by kernel_rfl) (fun _ _ _ h => h) (Or.inl ⟨by rfl, ?_⟩) (by exact q0) ?_
  rotate_left
  focus
    intro w9 hSw
    try dsimp only at hSw
    go_simp
    try with_reducible rfl
  try simp only [Act.put, List.setIfInBounds_toArray, List.set_cons_zero, List.set_cons_succ]
  refine AnyK.takeB (i := 3) (v := ?_) rfl (by kernel_rfl) (by kernel_rfl) (by kernel_rfl) (by kernel_rfl) (fun _ _ _ h => h) (Or.inl ⟨by rfl, ?_⟩) (by exact q0) ?_
  rotate_left
  focus
    intro w9 hSw
    try dsimp only at hSw
    go_simp
    try with_reducible rfl
  try simp only [Act.put, List.setIfInBounds_toArray, List.set_cons_zero, List.set_cons_succ]
  refine AnyK.takeB (i := 4) (v := ?_) rfl (by kernel_rfl) (by kernel_rfl) (by kernel_rfl) (by kernel_rfl) (fun _ _ _ h => h) (Or.inl ⟨by rfl, ?_⟩) (by exact q0) ?_
  rotate_left
  focus
    intro w9 hSw
    try dsimp only at hSw
    go_simp
    try with_reducible rfl
  try simp only [Act.put, List.setIfInBounds_toArray, List.set_cons_zero, List.set_cons_succ]
  refine AnyK.takeB (i := 5) (v := ?_) rfl (by kernel_rfl) (by kernel_rfl) (by kernel_rfl) (by kernel_rfl) (fun _ _ _ h => h) (Or.inl ⟨by rfl, ?_⟩) (by exact q0) ?_
  rotate_left
  focus
    intro w9 hSw
    try dsimp only at hSw
    go_simp
    try with_reducible rfl
  try simp only [Act.put, List.setIfInBounds_toArray, List.set_cons_zero, List.set_cons_succ]
  refine AnyK.takeB (i := 6) (v := ?_) rfl (by kernel_rfl) (by kernel_rfl) (by kernel_rfl) (by kernel_rfl) (fun _ _ _ h => h) (Or.inl ⟨by rfl, ?_⟩) (by exact q0) ?_
  rotate_left
  focus
    intro w9 hSw
    try dsimp only at hSw
    go_simp
    try with_reducible rfl
  try simp only [Act.put, List.setIfInBounds_toArray, List.set_cons_zero, List.set_cons_succ]
  refine AnyK.takeB (i := 7) (v := ?_) rfl (by kernel_rfl) (by kernel_rfl) (by kernel_rfl) (by kernel_rfl) (fun _ _ _ h => h) (Or.inl ⟨by rfl, ?_⟩) (by exact q0) ?_
  rotate_left
  focus
    intro w9 hSw
    try dsimp only at hSw
    go_simp
    try with_reducible rfl
  try simp only [Act.put, List.setIfInBounds_toArray, List.set_cons_zero, List.set_cons_succ]
  refine AnyK.one (i := 8) (by kernel_rfl) rfl (fun K9 hK9 => ?_)
  go_simp
  refine C.out.mono ?_
  rintro e w' ⟨rfl, H⟩
  refine hK9.out _ _ (fun hx => absurd (by decide) hx) ?_
  clear hK9 K9
  try simp only [Act.put, List.setIfInBounds_toArray, List.set_cons_zero, List.set_cons_succ]
  refine AnyK.done (by kernel_rfl) ?_ _
  refine NoPanic.normal ?_
  rw [wp.setEp] at H
  have HF : Heap w0 w' (pl.F (aSay me now s).2 T ++ X) := H
  go_wp2_with fail
  go_ret
  exact ⟨rfl, HF⟩
theorem said_touch (wp : WdPl pl c) (h : Heap w0 w (pl.F s T ++ X)) (ti : Nat) (hT : X[ti]? = some (tkP pl.tb c.wb tk me)) (ni : Nat) (k : Int) (hN : X[ni]? = some (blkP nk 3 #[.int .i64 k])) :
    Calls Try.prog 71 #[.pointer (some ⟨tk, 0, none⟩), .pointer (some ⟨nk, 0, none⟩)] w fun e w' => e = .returned (.int .i64 (aSaid k s).1) ∧ Heap w0 w' (pl.F (aSaid k s).2 T ++ X) := by
  have hd : Heap w0 w.drew (pl.F s T ++ X) := h.drew
  obtain ⟨k0, k1, k2⟩ := tk_cells hd ti hT
  obtain ⟨v0, v1, v2, v3, v4, v5⟩ := wd_cells wp hd
  have kn : w.drew.cell? ⟨nk, 0, none⟩ = some (.int .i64 k) := (x_blk hd ni hN).cell 0
  have C := Lib.hid ((Said_h hd (wp.wi + 3) (get_left (wp.g3 s T)) k).mono (fun e w' (he : e = _ ∧ w' = _) => (⟨he.1, he.2 ▸ hd⟩ : e = .returned (.int .i64 (saidEp k s.ep)) ∧ Heap w0 w' (pl.F s T ++ X))))
  have q0 : w.drew.cell? ⟨tk, 1, none⟩ = some (.pointer (some ⟨c.wb, 0, none⟩)) ∧ w.drew.cell? ⟨c.wb, 2, none⟩ = some (.pointer (some ⟨c.eb, 0, none⟩)) ∧ w.drew.cell? ⟨nk, 0, none⟩ = some (.int .i64 k) := ⟨k1, v2, kn⟩
  clear h hd
  go_enter Try.func71, Try.ntmps71
  go_wp2_with fail
  refine wp_region_noPanic ?_
  refine AnyK.start (ks := [6, 7]) (S := fun w' => w'.cell? ⟨tk, 1, none⟩ = some (.pointer (some ⟨c.wb, 0, none⟩)) ∧ w'.cell? ⟨c.wb, 2, none⟩ = some (.pointer (some ⟨c.eb, 0, none⟩)) ∧ w'.cell? ⟨nk, 0, none⟩ = some (.int .i64 k)) (by kernel_rfl) (by exact q0) (fun _ => ?_)
  refine AnyK.takeB (i := 0) (v := ?_) rfl (by kernel_rfl) (by kernel_rfl) (by kernel_rfl) (by kernel_rfl) (fun _ _ _ h => h) (Or.inl ⟨by rfl, ?_⟩) (by exact q0) ?_
  rotate_left
  focus
    intro w9 hSw
    try dsimp only at hSw
    go_simp
    try with_reducible rfl
  try simp only [Act.put, List.setIfInBounds_toArray, List.set_cons_zero, List.set_cons_succ]
  refine AnyK.takeB (i := 1) (v := ?_) rfl (by kernel_rfl) (by kernel_rfl) (by kernel_rfl) (by kernel_rfl) (fun _ _ _ h => h) (Or.inl ⟨by rfl, ?_⟩) (by exact q0) ?_
  rotate_left
  focus
    intro w9 hSw
    try dsimp only at hSw
    go_simp
    try with_reducible rfl
  try simp only [Act.put, List.setIfInBounds_toArray, List.set_cons_zero, List.set_cons_succ]
  refine AnyK.takeB (i := 2) (v := ?_) rfl (by kernel_rfl) (by kernel_rfl) (by kernel_rfl) (by kernel_rfl) (fun _ _ _ h => h) (Or.inl ⟨by rfl, ?_⟩) (by exact q0) ?_
  rotate_left
  focus
    intro w9 hSw
    try dsimp only at hSw
    go_simp
    try with_reducible rfl
  try simp only [Act.put, List.setIfInBounds_toArray, List.set_cons_zero, List.set_cons_succ]
  refine AnyK.takeB (i := 3) (v := ?_) rfl (by kernel_rfl) (by kernel_rfl) (by kernel_rfl) (by kernel_rfl) (fun _ _ _ h => h) (Or.inl ⟨by rfl, ?_⟩) (by exact q0) ?_
  rotate_left
  focus
    intro w9 hSw
    try dsimp only at hSw
    go_simp
    try with_reducible rfl
  try simp only [Act.put, List.setIfInBounds_toArray, List.set_cons_zero, List.set_cons_succ]
  refine AnyK.takeB (i := 4) (v := ?_) rfl (by kernel_rfl) (by kernel_rfl) (by kernel_rfl) (by kernel_rfl) (fun _ _ _ h => h) (Or.inl ⟨by rfl, ?_⟩) (by exact q0) ?_
  rotate_left
  focus
    intro w9 hSw
    try dsimp only at hSw
    go_simp
    try with_reducible rfl
  try simp only [Act.put, List.setIfInBounds_toArray, List.set_cons_zero, List.set_cons_succ]
  refine AnyK.takeB (i := 5) (v := ?_) rfl (by kernel_rfl) (by kernel_rfl) (by kernel_rfl) (by kernel_rfl) (fun _ _ _ h => h) (Or.inl ⟨by rfl, ?_⟩) (by exact q0) ?_
  rotate_left
  focus
    intro w9 hSw
    try dsimp only at hSw
    go_simp
    try with_reducible rfl
  try simp only [Act.put, List.setIfInBounds_toArray, List.set_cons_zero, List.set_cons_succ]
  refine AnyK.one (i := 6) (by kernel_rfl) rfl (fun K9 hK9 => ?_)
  go_simp
  refine C.out.mono ?_
  rintro e w' ⟨rfl, H⟩
  refine hK9.out _ _ (fun hx => absurd (by decide) hx) ?_
  clear hK9 K9
  try simp only [Act.put, List.setIfInBounds_toArray, List.set_cons_zero, List.set_cons_succ]
  refine AnyK.one (i := 7) (by kernel_rfl) rfl (fun K9 hK9 => ?_)
  go_simp
  refine hK9.out _ _ (fun hx => absurd (by decide) hx) ?_
  clear hK9 K9
  try simp only [Act.put, List.setIfInBounds_toArray, List.set_cons_zero, List.set_cons_succ]
  refine AnyK.done (by kernel_rfl) ?_ _
  refine NoPanic.normal ?_
  have HF : Heap w0 w' (pl.F (aSaid k s).2 T ++ X) := H
  go_wp2_with fail
  go_ret
  exact ⟨rfl, HF⟩
theorem swap_touch (wp : WdPl pl c) (h : Heap w0 w (pl.F s T ++ X)) (ti : Nat) (hT : X[ti]? = some (tkP pl.tb c.wb tk me)) (ni : Nat) (hN : X[ni]? = some (blkP nk 2 #[.int .i64 now])) (ok : WdOk N s) (hN' : N ≤ 60000) :
    Calls Try.prog 73 #[.pointer (some ⟨tk, 0, none⟩), .pointer (some ⟨nk, 0, none⟩)] w fun e w' => e = .returned (.bool (decide (s.ep.now = now))) ∧ Heap w0 w' (pl.F (aSwap now s).2 T ++ X) := by
  have hd : Heap w0 w.drew (pl.F s T ++ X) := h.drew
  obtain ⟨k0, k1, k2⟩ := tk_cells hd ti hT
  obtain ⟨v0, v1, v2, v3, v4, v5⟩ := wd_cells wp hd
  have kn : w.drew.cell? ⟨nk, 0, none⟩ = some (.int .i64 now) := (x_blk hd ni hN).cell 0
  have C := Lib.hid (Swap_h hd (wp.wi + 3) (get_left (wp.g3 s T)) now (by have := ok.ep.nb; omega))
  have q0 : w.drew.cell? ⟨tk, 1, none⟩ = some (.pointer (some ⟨c.wb, 0, none⟩)) ∧ w.drew.cell? ⟨c.wb, 2, none⟩ = some (.pointer (some ⟨c.eb, 0, none⟩)) ∧ w.drew.cell? ⟨nk, 0, none⟩ = some (.int .i64 now) := ⟨k1, v2, kn⟩
  clear h hd
  go_enter Try.func73, Try.ntmps73
  go_wp2_with fail
  refine wp_region_noPanic ?_
  refine AnyK.start (ks := [6, 7]) (S := fun w' => w'.cell? ⟨tk, 1, none⟩ = some (.pointer (some ⟨c.wb, 0, none⟩)) ∧ w'.cell? ⟨c.wb, 2, none⟩ = some (.pointer (some ⟨c.eb, 0, none⟩)) ∧ w'.cell? ⟨nk, 0, none⟩ = some (.int .i64 now)) (by kernel_rfl) (by exact q0) (fun _ => ?_)
  refine AnyK.takeB (i := 0) (v := ?_) rfl (by kernel_rfl) (by kernel_rfl) (by kernel_rfl) (by kernel_rfl) (fun _ _ _ h => h) (Or.inl ⟨by rfl, ?_⟩) (by exact q0) ?_
  rotate_left
  focus
    intro w9 hSw
    try dsimp only at hSw
    go_simp
    try with_reducible rfl
  try simp only [Act.put, List.setIfInBounds_toArray, List.set_cons_zero, List.set_cons_succ]
  refine AnyK.takeB (i := 1) (v := ?_) rfl (by kernel_rfl) (by kernel_rfl) (by kernel_rfl) (by kernel_rfl) (fun _ _ _ h => h) (Or.inl ⟨by rfl, ?_⟩) (by exact q0) ?_
  rotate_left
  focus
    intro w9 hSw
    try dsimp only at hSw
    go_simp
    try with_reducible rfl
  try simp only [Act.put, List.setIfInBounds_toArray, List.set_cons_zero, List.set_cons_succ]
  refine AnyK.takeB (i := 2) (v := ?_) rfl (by kernel_rfl) (by kernel_rfl) (by kernel_rfl) (by kernel_rfl) (fun _ _ _ h => h) (Or.inl ⟨by rfl, ?_⟩) (by exact q0) ?_
  rotate_left
  focus
    intro w9 hSw
    try dsimp only at hSw
    go_simp
    try with_reducible rfl
  try simp only [Act.put, List.setIfInBounds_toArray, List.set_cons_zero, List.set_cons_succ]
  refine AnyK.takeB (i := 3) (v := ?_) rfl (by kernel_rfl) (by kernel_rfl) (by kernel_rfl) (by kernel_rfl) (fun _ _ _ h => h) (Or.inl ⟨by rfl, ?_⟩) (by exact q0) ?_
  rotate_left
  focus
    intro w9 hSw
    try dsimp only at hSw
    go_simp
    try with_reducible rfl
  try simp only [Act.put, List.setIfInBounds_toArray, List.set_cons_zero, List.set_cons_succ]
  refine AnyK.takeB (i := 4) (v := ?_) rfl (by kernel_rfl) (by kernel_rfl) (by kernel_rfl) (by kernel_rfl) (fun _ _ _ h => h) (Or.inl ⟨by rfl, ?_⟩) (by exact q0) ?_
  rotate_left
  focus
    intro w9 hSw
    try dsimp only at hSw
    go_simp
    try with_reducible rfl
  try simp only [Act.put, List.setIfInBounds_toArray, List.set_cons_zero, List.set_cons_succ]
  refine AnyK.takeB (i := 5) (v := ?_) rfl (by kernel_rfl) (by kernel_rfl) (by kernel_rfl) (by kernel_rfl) (fun _ _ _ h => h) (Or.inl ⟨by rfl, ?_⟩) (by exact q0) ?_
  rotate_left
  focus
    intro w9 hSw
    try dsimp only at hSw
    go_simp
    try with_reducible rfl
  try simp only [Act.put, List.setIfInBounds_toArray, List.set_cons_zero, List.set_cons_succ]
  refine AnyK.one (i := 6) (by kernel_rfl) rfl (fun K9 hK9 => ?_)
  go_simp
  refine C.out.mono ?_
  rintro e w' ⟨rfl, H⟩
  refine hK9.out _ _ (fun hx => absurd (by decide) hx) ?_
  clear hK9 K9
  try simp only [Act.put, List.setIfInBounds_toArray, List.set_cons_zero, List.set_cons_succ]
  refine AnyK.one (i := 7) (by kernel_rfl) rfl (fun K9 hK9 => ?_)
  go_simp
  refine hK9.out _ _ (fun hx => absurd (by decide) hx) ?_
  clear hK9 K9
  try simp only [Act.put, List.setIfInBounds_toArray, List.set_cons_zero, List.set_cons_succ]
  refine AnyK.done (by kernel_rfl) ?_ _
  refine NoPanic.normal ?_
  rw [wp.setEp] at H
  have HF : Heap w0 w' (pl.F (aSwap now s).2 T ++ X) := H
  go_wp2_with fail
  go_ret
  exact ⟨rfl, HF⟩
theorem endSay_touch (wp : WdPl pl c) (h : Heap w0 w (pl.F s T ++ X)) (ti : Nat) (hT : X[ti]? = some (tkP pl.tb c.wb tk me)) :
    Calls Try.prog 76 #[.pointer (some ⟨tk, 0, none⟩)] w fun e w' => e = .returned (.int .i64 0) ∧ Heap w0 w' (pl.F (aSay me (-1) s).2 T ++ X) := by
  have hd : Heap w0 w.drew (pl.F s T ++ X) := h.drew
  obtain ⟨k0, k1, k2⟩ := tk_cells hd ti hT
  obtain ⟨v0, v1, v2, v3, v4, v5⟩ := wd_cells wp hd
  have C := Lib.hid (Say_h hd (wp.wi + 3) (get_left (wp.g3 s T)) me (-1))
  have q0 : w.drew.cell? ⟨tk, 1, none⟩ = some (.pointer (some ⟨c.wb, 0, none⟩)) ∧ w.drew.cell? ⟨tk, 2, none⟩ = some (.int .i64 me) ∧ w.drew.cell? ⟨c.wb, 2, none⟩ = some (.pointer (some ⟨c.eb, 0, none⟩)) := ⟨k1, k2, v2⟩
  clear h hd
  go_enter Try.func76, Try.ntmps76
  go_wp2_with fail
  refine wp_region_noPanic ?_
  refine AnyK.start (ks := [7]) (S := fun w' => w'.cell? ⟨tk, 1, none⟩ = some (.pointer (some ⟨c.wb, 0, none⟩)) ∧ w'.cell? ⟨tk, 2, none⟩ = some (.int .i64 me) ∧ w'.cell? ⟨c.wb, 2, none⟩ = some (.pointer (some ⟨c.eb, 0, none⟩))) (by kernel_rfl) (by exact q0) (fun _ => ?_)
  refine AnyK.takeB (i := 0) (v := ?_) rfl (by kernel_rfl) (by kernel_rfl) (by kernel_rfl) (by kernel_rfl) (fun _ _ _ h => h) (Or.inl ⟨by rfl, ?_⟩) (by exact q0) ?_
  rotate_left
  focus
    intro w9 hSw
    try dsimp only at hSw
    go_simp
    try with_reducible rfl
  try simp only [Act.put, List.setIfInBounds_toArray, List.set_cons_zero, List.set_cons_succ]
  refine AnyK.takeB (i := 1) (v := ?_) rfl (by kernel_rfl) (by kernel_rfl) (by kernel_rfl) (by kernel_rfl) (fun _ _ _ h => h) (Or.inl ⟨by rfl, ?_⟩) (by exact q0) ?_
  rotate_left
  focus
    intro w9 hSw
    try dsimp only at hSw
    go_simp
    try with_reducible rfl
  try simp only [Act.put, List.setIfInBounds_toArray, List.set_cons_zero, List.set_cons_succ]
  refine AnyK.takeB (i := 2) (v := ?_) rfl (by kernel_rfl) (by kernel_rfl) (by kernel_rfl) (by kernel_rfl) (fun _ _ _ h => h) (Or.inl ⟨by rfl, ?_⟩) (by exact q0) ?_
  rotate_left
  focus
    intro w9 hSw
    try dsimp only at hSw
    go_simp
    try with_reducible rfl
  try simp only [Act.put, List.setIfInBounds_toArray, List.set_cons_zero, List.set_cons_succ]
  refine AnyK.takeB (i := 3) (v := ?_) rfl (by kernel_rfl) (by kernel_rfl) (by kernel_rfl) (by kernel_rfl) (fun _ _ _ h => h) (Or.inl ⟨by rfl, ?_⟩) (by exact q0) ?_
  rotate_left
  focus
    intro w9 hSw
    try dsimp only at hSw
    go_simp
    try with_reducible rfl
  try simp only [Act.put, List.setIfInBounds_toArray, List.set_cons_zero, List.set_cons_succ]
  refine AnyK.takeB (i := 4) (v := ?_) rfl (by kernel_rfl) (by kernel_rfl) (by kernel_rfl) (by kernel_rfl) (fun _ _ _ h => h) (Or.inl ⟨by rfl, ?_⟩) (by exact q0) ?_
  rotate_left
  focus
    intro w9 hSw
    try dsimp only at hSw
    go_simp
    try with_reducible rfl
  try simp only [Act.put, List.setIfInBounds_toArray, List.set_cons_zero, List.set_cons_succ]
  refine AnyK.takeB (i := 5) (v := ?_) rfl (by kernel_rfl) (by kernel_rfl) (by kernel_rfl) (by kernel_rfl) (fun _ _ _ h => h) (Or.inl ⟨by rfl, ?_⟩) (by exact q0) ?_
  rotate_left
  focus
    intro w9 hSw
    try dsimp only at hSw
    go_simp
    try with_reducible rfl
  try simp only [Act.put, List.setIfInBounds_toArray, List.set_cons_zero, List.set_cons_succ]
  refine AnyK.takeB (i := 6) (v := ?_) rfl (by kernel_rfl) (by kernel_rfl) (by kernel_rfl) (by kernel_rfl) (fun _ _ _ h => h) (Or.inl ⟨by rfl, ?_⟩) (by exact q0) ?_
  rotate_left
  focus
    intro w9 hSw
    try dsimp only at hSw
    go_simp
    try with_reducible rfl
  try simp only [Act.put, List.setIfInBounds_toArray, List.set_cons_zero, List.set_cons_succ]
  refine AnyK.one (i := 7) (by kernel_rfl) rfl (fun K9 hK9 => ?_)
  go_simp
  refine C.out.mono ?_
  rintro e w' ⟨rfl, H⟩
  refine hK9.out _ _ (fun hx => absurd (by decide) hx) ?_
  clear hK9 K9
  try simp only [Act.put, List.setIfInBounds_toArray, List.set_cons_zero, List.set_cons_succ]
  refine AnyK.done (by kernel_rfl) ?_ _
  refine NoPanic.normal ?_
  rw [wp.setEp] at H
  have HF : Heap w0 w' (pl.F (aSay me (-1) s).2 T ++ X) := H
  go_wp2_with fail
  go_ret
  exact ⟨rfl, HF⟩
theorem free_touch (wp : WdPl pl c) (h : Heap w0 w (pl.F s T ++ X)) (ti : Nat) (hT : X[ti]? = some (tkP pl.tb c.wb tk me)) (ni : Nat) (r : Int) (hN : X[ni]? = some (blkP nk 29 #[.int .i64 r])) (ok : WdOk N s) (hN' : N ≤ 60000) :
    Calls Try.prog 84 #[.pointer (some ⟨tk, 0, none⟩), .pointer (some ⟨nk, 0, none⟩)] w fun e w' => e = .returned (.bool (freeAr r s.ar).1) ∧ Heap w0 w' (pl.F (aFree r s).2 T ++ X) := by
  have hd : Heap w0 w.drew (pl.F s T ++ X) := h.drew
  obtain ⟨k0, k1, k2⟩ := tk_cells hd ti hT
  obtain ⟨v0, v1, v2, v3, v4, v5⟩ := wd_cells wp hd
  have kn : w.drew.cell? ⟨nk, 0, none⟩ = some (.int .i64 r) := (x_blk hd ni hN).cell 0
  have C := Lib.hid (Free_h hd (wp.wi + 1) (get_left (wp.g1 s T)) (ok.ar.small hN').1 (ok.ar.small hN').2.1 r)
  have q0 : w.drew.cell? ⟨tk, 1, none⟩ = some (.pointer (some ⟨c.wb, 0, none⟩)) ∧ w.drew.cell? ⟨c.wb, 0, none⟩ = some (.pointer (some ⟨c.ab, 0, none⟩)) ∧ w.drew.cell? ⟨nk, 0, none⟩ = some (.int .i64 r) := ⟨k1, v0, kn⟩
  clear h hd
  go_enter Try.func84, Try.ntmps84
  go_wp2_with fail
  refine wp_region_noPanic ?_
  refine AnyK.start (ks := [6, 7]) (S := fun w' => w'.cell? ⟨tk, 1, none⟩ = some (.pointer (some ⟨c.wb, 0, none⟩)) ∧ w'.cell? ⟨c.wb, 0, none⟩ = some (.pointer (some ⟨c.ab, 0, none⟩)) ∧ w'.cell? ⟨nk, 0, none⟩ = some (.int .i64 r)) (by kernel_rfl) (by exact q0) (fun _ => ?_)
  refine AnyK.takeB (i := 0) (v := ?_) rfl (by kernel_rfl) (by kernel_rfl) (by kernel_rfl) (by kernel_rfl) (fun _ _ _ h => h) (Or.inl ⟨by rfl, ?_⟩) (by exact q0) ?_
  rotate_left
  focus
    intro w9 hSw
    try dsimp only at hSw
    go_simp
    try with_reducible rfl
  try simp only [Act.put, List.setIfInBounds_toArray, List.set_cons_zero, List.set_cons_succ]
  refine AnyK.takeB (i := 1) (v := ?_) rfl (by kernel_rfl) (by kernel_rfl) (by kernel_rfl) (by kernel_rfl) (fun _ _ _ h => h) (Or.inl ⟨by rfl, ?_⟩) (by exact q0) ?_
  rotate_left
  focus
    intro w9 hSw
    try dsimp only at hSw
    go_simp
    try with_reducible rfl
  try simp only [Act.put, List.setIfInBounds_toArray, List.set_cons_zero, List.set_cons_succ]
  refine AnyK.takeB (i := 2) (v := ?_) rfl (by kernel_rfl) (by kernel_rfl) (by kernel_rfl) (by kernel_rfl) (fun _ _ _ h => h) (Or.inl ⟨by rfl, ?_⟩) (by exact q0) ?_
  rotate_left
  focus
    intro w9 hSw
    try dsimp only at hSw
    go_simp
    try with_reducible rfl
  try simp only [Act.put, List.setIfInBounds_toArray, List.set_cons_zero, List.set_cons_succ]
  refine AnyK.takeB (i := 3) (v := ?_) rfl (by kernel_rfl) (by kernel_rfl) (by kernel_rfl) (by kernel_rfl) (fun _ _ _ h => h) (Or.inl ⟨by rfl, ?_⟩) (by exact q0) ?_
  rotate_left
  focus
    intro w9 hSw
    try dsimp only at hSw
    go_simp
    try with_reducible rfl
  try simp only [Act.put, List.setIfInBounds_toArray, List.set_cons_zero, List.set_cons_succ]
  refine AnyK.takeB (i := 4) (v := ?_) rfl (by kernel_rfl) (by kernel_rfl) (by kernel_rfl) (by kernel_rfl) (fun _ _ _ h => h) (Or.inl ⟨by rfl, ?_⟩) (by exact q0) ?_
  rotate_left
  focus
    intro w9 hSw
    try dsimp only at hSw
    go_simp
    try with_reducible rfl
  try simp only [Act.put, List.setIfInBounds_toArray, List.set_cons_zero, List.set_cons_succ]
  refine AnyK.takeB (i := 5) (v := ?_) rfl (by kernel_rfl) (by kernel_rfl) (by kernel_rfl) (by kernel_rfl) (fun _ _ _ h => h) (Or.inl ⟨by rfl, ?_⟩) (by exact q0) ?_
  rotate_left
  focus
    intro w9 hSw
    try dsimp only at hSw
    go_simp
    try with_reducible rfl
  try simp only [Act.put, List.setIfInBounds_toArray, List.set_cons_zero, List.set_cons_succ]
  refine AnyK.one (i := 6) (by kernel_rfl) rfl (fun K9 hK9 => ?_)
  go_simp
  refine C.out.mono ?_
  rintro e w' ⟨rfl, H⟩
  refine hK9.out _ _ (fun hx => absurd (by decide) hx) ?_
  clear hK9 K9
  try simp only [Act.put, List.setIfInBounds_toArray, List.set_cons_zero, List.set_cons_succ]
  refine AnyK.one (i := 7) (by kernel_rfl) rfl (fun K9 hK9 => ?_)
  go_simp
  refine hK9.out _ _ (fun hx => absurd (by decide) hx) ?_
  clear hK9 K9
  try simp only [Act.put, List.setIfInBounds_toArray, List.set_cons_zero, List.set_cons_succ]
  refine AnyK.done (by kernel_rfl) ?_ _
  refine NoPanic.normal ?_
  rw [wp.setAr] at H
  have HF : Heap w0 w' (pl.F (aFree r s).2 T ++ X) := H
  go_wp2_with fail
  go_ret
  exact ⟨rfl, HF⟩
theorem leave_touch (wp : WdPl pl c) (h : Heap w0 w (pl.F s T ++ X)) (ti : Nat) (hT : X[ti]? = some (tkP pl.tb c.wb tk me)) (ni mi : Nat) {mk : Nat} (r : Int) (hN : X[ni]? = some (blkP nk 29 #[.int .i64 r])) (hM : X[mi]? = some (blkP mk 2 #[.int .i64 now])) (ok : WdOk N s) (hN' : N ≤ 60000) :
    Calls Try.prog 85 #[.pointer (some ⟨tk, 0, none⟩), .pointer (some ⟨nk, 0, none⟩), .pointer (some ⟨mk, 0, none⟩)] w fun e w' => e = .returned (.int .i64 0) ∧ Heap w0 w' (pl.F (aLeave me r now s).2 T ++ X) := by
  have hd : Heap w0 w.drew (pl.F s T ++ X) := h.drew
  obtain ⟨k0, k1, k2⟩ := tk_cells hd ti hT
  obtain ⟨v0, v1, v2, v3, v4, v5⟩ := wd_cells wp hd
  have kn : w.drew.cell? ⟨nk, 0, none⟩ = some (.int .i64 r) := (x_blk hd ni hN).cell 0
  have km : w.drew.cell? ⟨mk, 0, none⟩ = some (.int .i64 now) := (x_blk hd mi hM).cell 0
  have C := Lib.hid (Leave_h hd (wp.wi + 3) (get_left (wp.g3 s T)) ok.ep (by omega) me r now)
  have q0 : w.drew.cell? ⟨tk, 1, none⟩ = some (.pointer (some ⟨c.wb, 0, none⟩)) ∧ w.drew.cell? ⟨tk, 2, none⟩ = some (.int .i64 me) ∧ w.drew.cell? ⟨c.wb, 2, none⟩ = some (.pointer (some ⟨c.eb, 0, none⟩)) ∧ w.drew.cell? ⟨nk, 0, none⟩ = some (.int .i64 r) ∧ w.drew.cell? ⟨mk, 0, none⟩ = some (.int .i64 now) := ⟨k1, k2, v2, kn, km⟩
  clear h hd
  go_enter Try.func85, Try.ntmps85
  go_wp2_with fail
  refine wp_region_noPanic ?_
  refine AnyK.start (ks := [9]) (S := fun w' => w'.cell? ⟨tk, 1, none⟩ = some (.pointer (some ⟨c.wb, 0, none⟩)) ∧ w'.cell? ⟨tk, 2, none⟩ = some (.int .i64 me) ∧ w'.cell? ⟨c.wb, 2, none⟩ = some (.pointer (some ⟨c.eb, 0, none⟩)) ∧ w'.cell? ⟨nk, 0, none⟩ = some (.int .i64 r) ∧ w'.cell? ⟨mk, 0, none⟩ = some (.int .i64 now)) (by kernel_rfl) (by exact q0) (fun _ => ?_)
  refine AnyK.takeB (i := 0) (v := ?_) rfl (by kernel_rfl) (by kernel_rfl) (by kernel_rfl) (by kernel_rfl) (fun _ _ _ h => h) (Or.inl ⟨by rfl, ?_⟩) (by exact q0) ?_
  rotate_left
  focus
    intro w9 hSw
    try dsimp only at hSw
    go_simp
    try with_reducible rfl
  try simp only [Act.put, List.setIfInBounds_toArray, List.set_cons_zero, List.set_cons_succ]
  refine AnyK.takeB (i := 1) (v := ?_) rfl (by kernel_rfl) (by kernel_rfl) (by kernel_rfl) (by kernel_rfl) (fun _ _ _ h => h) (Or.inl ⟨by rfl, ?_⟩) (by exact q0) ?_
  rotate_left
  focus
    intro w9 hSw
    try dsimp only at hSw
    go_simp
    try with_reducible rfl
  try simp only [Act.put, List.setIfInBounds_toArray, List.set_cons_zero, List.set_cons_succ]
  refine AnyK.takeB (i := 2) (v := ?_) rfl (by kernel_rfl) (by kernel_rfl) (by kernel_rfl) (by kernel_rfl) (fun _ _ _ h => h) (Or.inl ⟨by rfl, ?_⟩) (by exact q0) ?_
  rotate_left
  focus
    intro w9 hSw
    try dsimp only at hSw
    go_simp
    try with_reducible rfl
  try simp only [Act.put, List.setIfInBounds_toArray, List.set_cons_zero, List.set_cons_succ]
  refine AnyK.takeB (i := 3) (v := ?_) rfl (by kernel_rfl) (by kernel_rfl) (by kernel_rfl) (by kernel_rfl) (fun _ _ _ h => h) (Or.inl ⟨by rfl, ?_⟩) (by exact q0) ?_
  rotate_left
  focus
    intro w9 hSw
    try dsimp only at hSw
    go_simp
    try with_reducible rfl
  try simp only [Act.put, List.setIfInBounds_toArray, List.set_cons_zero, List.set_cons_succ]
  refine AnyK.takeB (i := 4) (v := ?_) rfl (by kernel_rfl) (by kernel_rfl) (by kernel_rfl) (by kernel_rfl) (fun _ _ _ h => h) (Or.inl ⟨by rfl, ?_⟩) (by exact q0) ?_
  rotate_left
  focus
    intro w9 hSw
    try dsimp only at hSw
    go_simp
    try with_reducible rfl
  try simp only [Act.put, List.setIfInBounds_toArray, List.set_cons_zero, List.set_cons_succ]
  refine AnyK.takeB (i := 5) (v := ?_) rfl (by kernel_rfl) (by kernel_rfl) (by kernel_rfl) (by kernel_rfl) (fun _ _ _ h => h) (Or.inl ⟨by rfl, ?_⟩) (by exact q0) ?_
  rotate_left
  focus
    intro w9 hSw
    try dsimp only at hSw
    go_simp
    try with_reducible rfl
  try simp only [Act.put, List.setIfInBounds_toArray, List.set_cons_zero, List.set_cons_succ]
  refine AnyK.takeB (i := 6) (v := ?_) rfl (by kernel_rfl) (by kernel_rfl) (by kernel_rfl) (by kernel_rfl) (fun _ _ _ h => h) (Or.inl ⟨by rfl, ?_⟩) (by exact q0) ?_
  rotate_left
  focus
    intro w9 hSw
    try dsimp only at hSw
    go_simp
    try with_reducible rfl
  try simp only [Act.put, List.setIfInBounds_toArray, List.set_cons_zero, List.set_cons_succ]
  refine AnyK.takeB (i := 7) (v := ?_) rfl (by kernel_rfl) (by kernel_rfl) (by kernel_rfl) (by kernel_rfl) (fun _ _ _ h => h) (Or.inl ⟨by rfl, ?_⟩) (by exact q0) ?_
  rotate_left
  focus
    intro w9 hSw
    try dsimp only at hSw
    go_simp
    try with_reducible rfl
  try simp only [Act.put, List.setIfInBounds_toArray, List.set_cons_zero, List.set_cons_succ]
  refine AnyK.takeB (i := 8) (v := ?_) rfl (by kernel_rfl) (by kernel_rfl) (by kernel_rfl) (by kernel_rfl) (fun _ _ _ h => h) (Or.inl ⟨by rfl, ?_⟩) (by exact q0) ?_
  rotate_left
  focus
    intro w9 hSw
    try dsimp only at hSw
    go_simp
    try with_reducible rfl
  try simp only [Act.put, List.setIfInBounds_toArray, List.set_cons_zero, List.set_cons_succ]
  refine AnyK.one (i := 9) (by kernel_rfl) rfl (fun K9 hK9 => ?_)
  go_simp
  refine C.out.mono ?_
  rintro e w' ⟨rfl, H⟩
  refine hK9.out _ _ (fun hx => absurd (by decide) hx) ?_
  clear hK9 K9
  try simp only [Act.put, List.setIfInBounds_toArray, List.set_cons_zero, List.set_cons_succ]
  refine AnyK.done (by kernel_rfl) ?_ _
  refine NoPanic.normal ?_
  rw [wp.setEp] at H
  have HF : Heap w0 w' (pl.F (aLeave me r now s).2 T ++ X) := H
  go_wp2_with fail
  go_ret
  exact ⟨rfl, HF⟩
theorem make_touch (wp : WdPl pl c) (h : Heap w0 w (pl.F s T ++ X)) (ti : Nat) (hT : X[ti]? = some (tkP pl.tb c.wb tk me)) (ni : Nat) (nd : Nd) (vp vk vn : Value) (hN : X[ni]? = some (blkP nk 58 #[.bool nd.inner, .bool nd.tagged, vp, vk, vn])) (ok : WdOk N s) (hN' : N ≤ 60000) (hnd : nd.few)
    (rd : ∀ x (L : List Piece), Heap w0 x (L ++ X) → RdV x vp nd.pairs.length 2 (pairC nd.pairs) ∧ RdV x vk nd.keys.length 1 (intC nd.keys) ∧ RdV x vn nd.ways.length 1 (intC nd.ways)) :
    Calls Try.prog 83 #[.pointer (some ⟨tk, 0, none⟩), .pointer (some ⟨nk, 0, none⟩)] w fun e w' => e = .returned (.int .i64 (aAlloc nd s).1) ∧ Heap w0 w' (pl.F (aAlloc nd s).2 T ++ X) := by
  have hd : Heap w0 w.drew (pl.F s T ++ X) := h.drew
  obtain ⟨k0, k1, k2⟩ := tk_cells hd ti hT
  obtain ⟨v0, v1, v2, v3, v4, v5⟩ := wd_cells wp hd
  have n0 : w.drew.cell? ⟨nk, 0, none⟩ = some (.bool nd.inner) := (x_blk hd ni hN).cell 0
  have n1 : w.drew.cell? ⟨nk, 1, none⟩ = some (.bool nd.tagged) := (x_blk hd ni hN).cell 1
  have n2 : w.drew.cell? ⟨nk, 2, none⟩ = some vp := (x_blk hd ni hN).cell 2
  have n3 : w.drew.cell? ⟨nk, 3, none⟩ = some vk := (x_blk hd ni hN).cell 3
  have n4 : w.drew.cell? ⟨nk, 4, none⟩ = some vn := (x_blk hd ni hN).cell 4
  have C := Lib.hid (Alloc_h hd (wp.wi + 1) (get_left (wp.g1 s T)) (ok.ar.small hN').2.2.2 nd hnd vp vk vn (fun x q hq => rd x ((pl.F s T).set (wp.wi + 1) q) (by rwa [List.set_append_left _ _ (List.getElem?_eq_some_iff.1 (wp.g1 s T)).1] at hq)))
  have q0 : w.drew.cell? ⟨tk, 1, none⟩ = some (.pointer (some ⟨c.wb, 0, none⟩)) ∧ w.drew.cell? ⟨c.wb, 0, none⟩ = some (.pointer (some ⟨c.ab, 0, none⟩)) ∧ w.drew.cell? ⟨nk, 0, none⟩ = some (.bool nd.inner) ∧ w.drew.cell? ⟨nk, 1, none⟩ = some (.bool nd.tagged) ∧ w.drew.cell? ⟨nk, 2, none⟩ = some vp ∧ w.drew.cell? ⟨nk, 3, none⟩ = some vk ∧ w.drew.cell? ⟨nk, 4, none⟩ = some vn := ⟨k1, v0, n0, n1, n2, n3, n4⟩
  clear h hd
  go_enter Try.func83, Try.ntmps83
  go_wp2_with fail
  refine wp_region_noPanic ?_
  refine AnyK.start (ks := [6, 7, 8, 9, 10, 11]) (S := fun w' => w'.cell? ⟨tk, 1, none⟩ = some (.pointer (some ⟨c.wb, 0, none⟩)) ∧ w'.cell? ⟨c.wb, 0, none⟩ = some (.pointer (some ⟨c.ab, 0, none⟩)) ∧ w'.cell? ⟨nk, 0, none⟩ = some (.bool nd.inner) ∧ w'.cell? ⟨nk, 1, none⟩ = some (.bool nd.tagged) ∧ w'.cell? ⟨nk, 2, none⟩ = some vp ∧ w'.cell? ⟨nk, 3, none⟩ = some vk ∧ w'.cell? ⟨nk, 4, none⟩ = some vn) (by kernel_rfl) (by exact q0) (fun _ => ?_)
  refine AnyK.takeB (i := 0) (v := ?_) rfl (by kernel_rfl) (by kernel_rfl) (by kernel_rfl) (by kernel_rfl) (fun _ _ _ h => h) (Or.inl ⟨by rfl, ?_⟩) (by exact q0) ?_
  rotate_left
  focus
    intro w9 hSw
    try dsimp only at hSw
    go_simp
    try with_reducible rfl
  try simp only [Act.put, List.setIfInBounds_toArray, List.set_cons_zero, List.set_cons_succ]
  refine AnyK.takeB (i := 1) (v := ?_) rfl (by kernel_rfl) (by kernel_rfl) (by kernel_rfl) (by kernel_rfl) (fun _ _ _ h => h) (Or.inl ⟨by rfl, ?_⟩) (by exact q0) ?_
  rotate_left
  focus
    intro w9 hSw
    try dsimp only at hSw
    go_simp
    try with_reducible rfl
  try simp only [Act.put, List.setIfInBounds_toArray, List.set_cons_zero, List.set_cons_succ]
  refine AnyK.takeB (i := 2) (v := ?_) rfl (by kernel_rfl) (by kernel_rfl) (by kernel_rfl) (by kernel_rfl) (fun _ _ _ h => h) (Or.inl ⟨by rfl, ?_⟩) (by exact q0) ?_
  rotate_left
  focus
    intro w9 hSw
    try dsimp only at hSw
    go_simp
    try with_reducible rfl
  try simp only [Act.put, List.setIfInBounds_toArray, List.set_cons_zero, List.set_cons_succ]
  refine AnyK.takeB (i := 3) (v := ?_) rfl (by kernel_rfl) (by kernel_rfl) (by kernel_rfl) (by kernel_rfl) (fun _ _ _ h => h) (Or.inl ⟨by rfl, ?_⟩) (by exact q0) ?_
  rotate_left
  focus
    intro w9 hSw
    try dsimp only at hSw
    go_simp
    try with_reducible rfl
  try simp only [Act.put, List.setIfInBounds_toArray, List.set_cons_zero, List.set_cons_succ]
  refine AnyK.takeB (i := 4) (v := ?_) rfl (by kernel_rfl) (by kernel_rfl) (by kernel_rfl) (by kernel_rfl) (fun _ _ _ h => h) (Or.inl ⟨by rfl, ?_⟩) (by exact q0) ?_
  rotate_left
  focus
    intro w9 hSw
    try dsimp only at hSw
    go_simp
    try with_reducible rfl
  try simp only [Act.put, List.setIfInBounds_toArray, List.set_cons_zero, List.set_cons_succ]
  refine AnyK.takeB (i := 5) (v := ?_) rfl (by kernel_rfl) (by kernel_rfl) (by kernel_rfl) (by kernel_rfl) (fun _ _ _ h => h) (Or.inl ⟨by rfl, ?_⟩) (by exact q0) ?_
  rotate_left
  focus
    intro w9 hSw
    try dsimp only at hSw
    go_simp
    try with_reducible rfl
  try simp only [Act.put, List.setIfInBounds_toArray, List.set_cons_zero, List.set_cons_succ]
  refine AnyK.one (i := 6) (by kernel_rfl) rfl (fun K9 hK9 => ?_)
  go_simp
  refine C.out.mono ?_
  rintro e w' ⟨rfl, H⟩
  refine hK9.out _ _ (fun hx => absurd (by decide) hx) ?_
  clear hK9 K9
  try simp only [Act.put, List.setIfInBounds_toArray, List.set_cons_zero, List.set_cons_succ]
  refine AnyK.phase (S' := fun w' => True) (ks' := []) (by kernel_rfl) ?_
  refine AnyK.take (i := 7) (v := ?_) rfl (by kernel_rfl) (by kernel_rfl) (by kernel_rfl) (by kernel_rfl) (fun _ _ _ h => h) (Or.inl ⟨by rfl, ?_⟩) (by exact trivial) ?_
  rotate_left
  focus
    intro w9 hSw
    try dsimp only at hSw
    go_simp
    try with_reducible rfl
  try simp only [Act.put, List.setIfInBounds_toArray, List.set_cons_zero, List.set_cons_succ]
  refine AnyK.take (i := 8) (v := ?_) rfl (by kernel_rfl) (by kernel_rfl) (by kernel_rfl) (by kernel_rfl) (fun _ _ _ h => h) (Or.inl ⟨by rfl, ?_⟩) (by exact trivial) ?_
  rotate_left
  focus
    intro w9 hSw
    try dsimp only at hSw
    go_simp
    try with_reducible rfl
  try simp only [Act.put, List.setIfInBounds_toArray, List.set_cons_zero, List.set_cons_succ]
  refine AnyK.take (i := 9) (v := ?_) rfl (by kernel_rfl) (by kernel_rfl) (by kernel_rfl) (by kernel_rfl) (fun _ _ _ h => h) (Or.inl ⟨by rfl, ?_⟩) (by exact trivial) ?_
  rotate_left
  focus
    intro w9 hSw
    try dsimp only at hSw
    go_simp
    try with_reducible rfl
  try simp only [Act.put, List.setIfInBounds_toArray, List.set_cons_zero, List.set_cons_succ]
  refine AnyK.one (i := 10) (by kernel_rfl) rfl (fun K9 hK9 => ?_)
  go_simp
  refine hK9.out _ _ (fun _ => trivial) ?_
  clear hK9 K9
  try simp only [Act.put, List.setIfInBounds_toArray, List.set_cons_zero, List.set_cons_succ]
  refine AnyK.one (i := 11) (by kernel_rfl) rfl (fun K9 hK9 => ?_)
  go_simp
  refine hK9.out _ _ (fun _ => trivial) ?_
  clear hK9 K9
  try simp only [Act.put, List.setIfInBounds_toArray, List.set_cons_zero, List.set_cons_succ]
  refine AnyK.done (by kernel_rfl) ?_ _
  refine NoPanic.normal ?_
  rw [wp.setAr] at H
  have HF : Heap w0 w' (pl.F (aAlloc nd s).2 T ++ X) := H
  go_wp2_with fail
  go_ret
  exact ⟨rfl, HF⟩
end
end Go.Proofs.Ythkohomogknddaa
