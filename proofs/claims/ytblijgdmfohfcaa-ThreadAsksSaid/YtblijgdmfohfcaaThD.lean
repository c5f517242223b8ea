/- A thread: run, where work waits and where it comes to its end. No condition but on work, what it comes to. -/
import Derived.Test.YtblijgdmfohfcaaThC
namespace Go.Proofs.Ytblijgdmfohfcaa
open Go Go.RowKit
set_option linter.unusedVariables false
set_option linter.unusedSimpArgs false
theorem leaves_res {P : Program} {fn : Func} {t1 t2 : Array Value} {R : Ending → World → Prop} (h : results fn t1 = results fn t2) : ∀ (ds : List Deferred) (u : FrameMode) (w : World), Leaves P fn t1 R ds u w → Leaves P fn t2 R ds u w
  | [], .returning, w, hl => by
    obtain ⟨v, hr, hR⟩ := hl
    exact ⟨v, h ▸ hr, hR⟩
  | [], .panicking c, w, hl => hl
  | [], .run, w, hl => hl.elim
  | d :: ds, u, w, hl => by
    obtain ⟨hrun, fv, cap, f, args, ht, hi, hc⟩ := hl
    refine ⟨hrun, fv, cap, f, args, ht, hi, hc.mono fun e u' w' hx => ?_⟩
    cases e with
    | returned v => exact leaves_res h ds _ _ hx
    | panicked c => exact leaves_res h ds _ _ hx
    | outgrown => exact hx
theorem run_res (a : Act) (d : Nat) (v : Value) (hd : d ≠ 2) : results Try.f36 (a.put (some d) v).tmps = results Try.f36 a.tmps := by
  have e : (a.put (some d) v).tmps[2]? = a.tmps[2]? := by
    simp only [Act.put]
    rw [Array.getElem?_setIfInBounds_ne hd]
  simp [results, Try.results36, e]
theorem leaves_put {P : Program} {R : Ending → World → Prop} {a : Act} {d : Nat} {v : Value} {u : FrameMode} {w : World} (hd : d ≠ 2) (h : Leaves P Try.f36 (a.put (some d) v).tmps R (a.put (some d) v).defers u w) : Leaves P Try.f36 a.tmps R a.defers u w :=
  leaves_res (run_res a d v hd) a.defers u w h
section
variable {w0 w : World} {l : List Piece} {tb : Nat} {T : Th}
set_option maxHeartbeats 4000000 in
theorem run_wait (h : Heap w0 w l) (i : Nat) (hi : l[i]? = some (thP tb T)) (f : FuncId) (first cap : Array Value) (hwork : T.work = .func (.func f) first cap)
    (hent : ∀ (x : Array Value) (z : World), (callFunc f x).run Try.prog z = .ok (.enter f x) z) (l1 : List Piece) (T1 : Th) (hi1 : i < l1.length)
    (hw : ∀ X z, Heap w0 z (l.set i (thP tb { T with inn := true }) ++ X) → Calls Try.prog f (first.push (.pointer (some ⟨tb, 0, none⟩)) ++ cap) z fun e w' => e = .panicked [waitE] ∧ Heap w0 w' (l1.set i (thP tb T1) ++ X)) :
    Calls Try.prog 36 #[.pointer (some ⟨tb, 0, none⟩)] w fun e w' => e = .returned (.bool false) ∧ Heap w0 w' (l1.set i (thP tb { T1 with inn := false })) := by
  have hil := (List.getElem?_eq_some_iff.1 hi).1
  have B0 := (h.openTh i hi)
  obtain ⟨a, c, H0⟩ := B0
  have lt := H0.thBlk.lt
  have c0 : w.cell? ⟨tb, 0, none⟩ = some (.func (.func f) first cap) := by rw [← hwork]; exact H0.thBlk.cell 0
  have c4 : w.cell? ⟨tb, 4, none⟩ = some (.bool T.inn) := H0.thBlk.cell 4
  have z4 := H0.thBlk.froz 4
  have hs : (w.setCell ⟨tb, 4, none⟩ (.bool true)).heap.size = w.heap.size := by simp [World.setCell]
  have G0 := (((H0.thSet (T' := { T with inn := true }) 4 (.bool true) rfl rfl).shutTh hil).alloc 29 #[.pointer (some ⟨tb, 0, none⟩)]).alloc 4 #[.bool false]
  have hs2 : ((w.setCell ⟨tb, 4, none⟩ (.bool true)).alloc (.cells #[.pointer (some ⟨tb, 0, none⟩)] 29)).heap.size = w.heap.size + 1 := by simp [World.setCell]
  rw [hs, hs2, List.append_assoc] at G0
  have HG := Lib.hid G0
  have HW := Lib.hid hw
  clear h H0 hw G0 hs hs2
  have hmf : ∀ (fn : Fn) (first cap : Array Value) (z : World), (Instr.makeFunc fn first cap).run Try.prog z = .ok (.func fn first cap) z := fun _ _ _ _ => rfl
  go_enter_defers Try.func36, Try.ntmps36
  go_wp2_with fail
  generalize hH : w.heap.size = H at *
  have G1 := HG.out
  clear HG c0 c4 z4
  generalize hW : ((w.setCell ⟨tb, 4, none⟩ (.bool true)).alloc (.cells #[.pointer (some ⟨tb, 0, none⟩)] 29)).alloc (.cells #[.bool false] 4) = W at *
  clear hW hH lt
  have dA : W.cell? ⟨H, 0, none⟩ = some (.pointer (some ⟨tb, 0, none⟩)) := (G1.blk l.length (b := H) (t := 29) (c := #[.pointer (some ⟨tb, 0, none⟩)]) (by rw [List.getElem?_append_right (by simp)]; simp)).cell 0
  have d0 : W.cell? ⟨tb, 0, none⟩ = some (.func (.func f) first cap) := by
    obtain ⟨_, _, Go⟩ := G1.openTh i (by rw [List.getElem?_append_left (by simpa using hil), List.getElem?_set_self hil])
    rw [← hwork]; exact Go.thBlk.cell 0
  have GG := Lib.hid G1
  clear G1
  have q0 : W.cell? ⟨H, 0, none⟩ = some (.pointer (some ⟨tb, 0, none⟩)) ∧ W.cell? ⟨tb, 0, none⟩ = some (.func (.func f) first cap) := ⟨dA, d0⟩
  refine AnyK.start (ks := []) (S := fun w' => w'.cell? ⟨H, 0, none⟩ = some (.pointer (some ⟨tb, 0, none⟩)) ∧ w'.cell? ⟨tb, 0, none⟩ = some (.func (.func f) first cap)) (by kernel_rfl) (by exact q0) (fun _ => ?_)
  refine AnyK.take (i := 0) (v := ?_) rfl (by kernel_rfl) (by kernel_rfl) (by kernel_rfl) (by kernel_rfl) (fun _ _ _ h => leaves_put (by decide) h) (Or.inl ⟨by rfl, ?_⟩) (by exact q0) ?_
  rotate_left
  focus
    intro w9 hSw
    try dsimp only at hSw
    go_simp
    try with_reducible rfl
  try simp only [Act.put, List.setIfInBounds_toArray, List.set_cons_zero, List.set_cons_succ]
  refine AnyK.take (i := 1) (v := ?_) rfl (by kernel_rfl) (by kernel_rfl) (by kernel_rfl) (by kernel_rfl) (fun _ _ _ h => leaves_put (by decide) h) (Or.inl ⟨by rfl, ?_⟩) (by exact q0) ?_
  rotate_left
  focus
    intro w9 hSw
    try dsimp only at hSw
    go_simp
    try with_reducible rfl
  try simp only [Act.put, List.setIfInBounds_toArray, List.set_cons_zero, List.set_cons_succ]
  refine AnyK.take (i := 2) (v := ?_) rfl (by kernel_rfl) (by kernel_rfl) (by kernel_rfl) (by kernel_rfl) (fun _ _ _ h => leaves_put (by decide) h) (Or.inl ⟨by rfl, ?_⟩) (by exact q0) ?_
  rotate_left
  focus
    intro w9 hSw
    try dsimp only at hSw
    go_simp
    try with_reducible rfl
  try simp only [Act.put, List.setIfInBounds_toArray, List.set_cons_zero, List.set_cons_succ]
  refine AnyK.take (i := 3) (v := ?_) rfl (by kernel_rfl) (by kernel_rfl) (by kernel_rfl) (by kernel_rfl) (fun _ _ _ h => leaves_put (by decide) h) (Or.inl ⟨by rfl, ?_⟩) (by exact q0) ?_
  rotate_left
  focus
    intro w9 hSw
    try dsimp only at hSw
    go_simp
    try with_reducible rfl
  try simp only [Act.put, List.setIfInBounds_toArray, List.set_cons_zero, List.set_cons_succ]
  refine AnyK.take (i := 4) (v := ?_) rfl (by kernel_rfl) (by kernel_rfl) (by kernel_rfl) (by kernel_rfl) (fun _ _ _ h => leaves_put (by decide) h) (Or.inl ⟨by rfl, ?_⟩) (by exact q0) ?_
  rotate_left
  focus
    intro w9 hSw
    try dsimp only at hSw
    go_simp
    try with_reducible rfl
  try simp only [Act.put, List.setIfInBounds_toArray, List.set_cons_zero, List.set_cons_succ]
  refine AnyK.take (i := 5) (v := ?_) rfl (by kernel_rfl) (by kernel_rfl) (by kernel_rfl) (by kernel_rfl) (fun _ _ _ h => leaves_put (by decide) h) (Or.inl ⟨by rfl, ?_⟩) (by exact q0) ?_
  rotate_left
  focus
    intro w9 hSw
    try dsimp only at hSw
    go_simp
    try with_reducible rfl
  try simp only [Act.put, List.setIfInBounds_toArray, List.set_cons_zero, List.set_cons_succ]
  refine AnyK.one (i := 6) (by kernel_rfl) rfl (fun K hK => ?_)
  go_simp
  refine (HW.out _ W.drew GG.out.drew).mono ?_
  rintro e w' ⟨rfl, H3⟩
  change bodyPostD Try.prog Try.f36 _ (Exit.panic [waitE]) _ _
  clear hK K HW GG q0 dA d0
  have dA : w'.cell? ⟨H, 0, none⟩ = some (.pointer (some ⟨tb, 0, none⟩)) := (H3.blk l1.length (b := H) (t := 29) (c := #[.pointer (some ⟨tb, 0, none⟩)]) (by rw [List.getElem?_append_right (by simp)]; simp)).cell 0
  have BB := H3.blk (l1.length + 1) (b := H + 1) (t := 4) (c := #[.bool false]) (by rw [List.getElem?_append_right (by simp)]; simp)
  have dB : w'.cell? ⟨H + 1, 0, none⟩ = some (.bool false) := BB.cell 0
  obtain ⟨_, _, Go⟩ := H3.openTh (T := T1) (tb := tb) i (by rw [List.getElem?_append_left (by simpa using hi1)]; exact List.getElem?_set_self hi1)
  have d4 : w'.cell? ⟨tb, 4, none⟩ = some (.bool T1.inn) := Go.thBlk.cell 4
  have z4 := Go.thBlk.froz 4
  have hne : ¬ tb = H + 1 := fun e => by
    have hb := Go.thBlk
    subst e
    exact hb.ne BB (by decide) rfl
  have G5 := (Go.thSet (T' := { T1 with inn := false }) 4 (.bool false) rfl rfl).shutTh (by simp; omega)
  rw [List.set_append_left _ _ (by simpa using hi1), List.set_set] at G5
  have G6 := G5.setCell (l1.length + 1) (b := H + 1) (t := 4) (c := #[.bool false]) (by rw [List.getElem?_append_right (by simp)]; simp) 0 (.bool false)
  rw [List.set_append_right _ _ (by simp)] at G6
  have G7 := (G6.skip (.cells #[] 60))
  have e7 : ((((w'.setCell ⟨tb, 4, none⟩ (.bool false)).setCell ⟨H + 1, 0, none⟩ (.bool false)).alloc (.cells #[] 60))).cell? ⟨H + 1, 0, none⟩ = some (.bool false) := (G7.blk (l1.length + 1) (b := H + 1) (t := 4) (c := #[.bool false]) (by rw [List.getElem?_append_right (by simp)]; simp)).cell 0
  have GF := G7.first
  refine leaves_cons (f := 38) (args := #[.pointer (some ⟨H, 0, none⟩), .pointer (some ⟨H + 1, 0, none⟩)]) (by simp) (by simp [go_sem]) ?_
  refine (catch_wait [] dA d4 z4 dB (BB.froz 0) hne BB.lt).mono ?_
  rintro e u' w'' ⟨rfl, rfl, rfl⟩
  simp [Leaves, settle, results, Try.results36, go_sem, e7]
  exact GF
set_option maxHeartbeats 4000000 in
theorem run_done (h : Heap w0 w l) (i : Nat) (hi : l[i]? = some (thP tb T)) (f : FuncId) (first cap : Array Value) (hwork : T.work = .func (.func f) first cap)
    (hent : ∀ (x : Array Value) (z : World), (callFunc f x).run Try.prog z = .ok (.enter f x) z) (l1 : List Piece) (T1 : Th) (hi1 : i < l1.length) (hw1 : T1.work = T.work) (E : Value → List Piece)
    (hw : ∀ X z, Heap w0 z (l.set i (thP tb { T with inn := true }) ++ X) → Calls Try.prog f (first.push (.pointer (some ⟨tb, 0, none⟩)) ++ cap) z fun e w' => ∃ a n c, e = .returned (.slice a n c) ∧ Heap w0 w' (l1.set i (thP tb T1) ++ X ++ E (.slice a n c))) :
    Calls Try.prog 36 #[.pointer (some ⟨tb, 0, none⟩)] w fun e w' => ∃ a n c, e = .returned (.bool true) ∧ Heap w0 w' (l1.set i (thP tb { T1 with inn := false, done := true, out := .slice a n c }) ++ E (.slice a n c)) := by
  have hil := (List.getElem?_eq_some_iff.1 hi).1
  have B0 := (h.openTh i hi)
  obtain ⟨a, c, H0⟩ := B0
  have lt := H0.thBlk.lt
  have c0 : w.cell? ⟨tb, 0, none⟩ = some (.func (.func f) first cap) := by rw [← hwork]; exact H0.thBlk.cell 0
  have c4 : w.cell? ⟨tb, 4, none⟩ = some (.bool T.inn) := H0.thBlk.cell 4
  have z4 := H0.thBlk.froz 4
  have hs : (w.setCell ⟨tb, 4, none⟩ (.bool true)).heap.size = w.heap.size := by simp [World.setCell]
  have G0 := (((H0.thSet (T' := { T with inn := true }) 4 (.bool true) rfl rfl).shutTh hil).alloc 29 #[.pointer (some ⟨tb, 0, none⟩)]).alloc 4 #[.bool false]
  have hs2 : ((w.setCell ⟨tb, 4, none⟩ (.bool true)).alloc (.cells #[.pointer (some ⟨tb, 0, none⟩)] 29)).heap.size = w.heap.size + 1 := by simp [World.setCell]
  rw [hs, hs2, List.append_assoc] at G0
  have HG := Lib.hid G0
  have HW := Lib.hid hw
  clear h H0 hw G0 hs hs2
  have hmf : ∀ (fn : Fn) (first cap : Array Value) (z : World), (Instr.makeFunc fn first cap).run Try.prog z = .ok (.func fn first cap) z := fun _ _ _ _ => rfl
  go_enter_defers Try.func36, Try.ntmps36
  go_wp2_with fail
  generalize hH : w.heap.size = H at *
  have G1 := HG.out
  clear HG c0 c4 z4
  generalize hW : ((w.setCell ⟨tb, 4, none⟩ (.bool true)).alloc (.cells #[.pointer (some ⟨tb, 0, none⟩)] 29)).alloc (.cells #[.bool false] 4) = W at *
  clear hW hH lt
  have dA : W.cell? ⟨H, 0, none⟩ = some (.pointer (some ⟨tb, 0, none⟩)) := (G1.blk l.length (b := H) (t := 29) (c := #[.pointer (some ⟨tb, 0, none⟩)]) (by rw [List.getElem?_append_right (by simp)]; simp)).cell 0
  have d0 : W.cell? ⟨tb, 0, none⟩ = some (.func (.func f) first cap) := by
    obtain ⟨_, _, Go⟩ := G1.openTh i (by rw [List.getElem?_append_left (by simpa using hil), List.getElem?_set_self hil])
    rw [← hwork]; exact Go.thBlk.cell 0
  have GG := Lib.hid G1
  clear G1
  have q0 : W.cell? ⟨H, 0, none⟩ = some (.pointer (some ⟨tb, 0, none⟩)) ∧ W.cell? ⟨tb, 0, none⟩ = some (.func (.func f) first cap) := ⟨dA, d0⟩
  refine AnyK.start (ks := []) (S := fun w' => w'.cell? ⟨H, 0, none⟩ = some (.pointer (some ⟨tb, 0, none⟩)) ∧ w'.cell? ⟨tb, 0, none⟩ = some (.func (.func f) first cap)) (by kernel_rfl) (by exact q0) (fun _ => ?_)
  refine AnyK.take (i := 0) (v := ?_) rfl (by kernel_rfl) (by kernel_rfl) (by kernel_rfl) (by kernel_rfl) (fun _ _ _ h => leaves_put (by decide) h) (Or.inl ⟨by rfl, ?_⟩) (by exact q0) ?_
  rotate_left
  focus
    intro w9 hSw
    try dsimp only at hSw
    go_simp
    try with_reducible rfl
  try simp only [Act.put, List.setIfInBounds_toArray, List.set_cons_zero, List.set_cons_succ]
  refine AnyK.take (i := 1) (v := ?_) rfl (by kernel_rfl) (by kernel_rfl) (by kernel_rfl) (by kernel_rfl) (fun _ _ _ h => leaves_put (by decide) h) (Or.inl ⟨by rfl, ?_⟩) (by exact q0) ?_
  rotate_left
  focus
    intro w9 hSw
    try dsimp only at hSw
    go_simp
    try with_reducible rfl
  try simp only [Act.put, List.setIfInBounds_toArray, List.set_cons_zero, List.set_cons_succ]
  refine AnyK.take (i := 2) (v := ?_) rfl (by kernel_rfl) (by kernel_rfl) (by kernel_rfl) (by kernel_rfl) (fun _ _ _ h => leaves_put (by decide) h) (Or.inl ⟨by rfl, ?_⟩) (by exact q0) ?_
  rotate_left
  focus
    intro w9 hSw
    try dsimp only at hSw
    go_simp
    try with_reducible rfl
  try simp only [Act.put, List.setIfInBounds_toArray, List.set_cons_zero, List.set_cons_succ]
  refine AnyK.take (i := 3) (v := ?_) rfl (by kernel_rfl) (by kernel_rfl) (by kernel_rfl) (by kernel_rfl) (fun _ _ _ h => leaves_put (by decide) h) (Or.inl ⟨by rfl, ?_⟩) (by exact q0) ?_
  rotate_left
  focus
    intro w9 hSw
    try dsimp only at hSw
    go_simp
    try with_reducible rfl
  try simp only [Act.put, List.setIfInBounds_toArray, List.set_cons_zero, List.set_cons_succ]
  refine AnyK.take (i := 4) (v := ?_) rfl (by kernel_rfl) (by kernel_rfl) (by kernel_rfl) (by kernel_rfl) (fun _ _ _ h => leaves_put (by decide) h) (Or.inl ⟨by rfl, ?_⟩) (by exact q0) ?_
  rotate_left
  focus
    intro w9 hSw
    try dsimp only at hSw
    go_simp
    try with_reducible rfl
  try simp only [Act.put, List.setIfInBounds_toArray, List.set_cons_zero, List.set_cons_succ]
  refine AnyK.take (i := 5) (v := ?_) rfl (by kernel_rfl) (by kernel_rfl) (by kernel_rfl) (by kernel_rfl) (fun _ _ _ h => leaves_put (by decide) h) (Or.inl ⟨by rfl, ?_⟩) (by exact q0) ?_
  rotate_left
  focus
    intro w9 hSw
    try dsimp only at hSw
    go_simp
    try with_reducible rfl
  try simp only [Act.put, List.setIfInBounds_toArray, List.set_cons_zero, List.set_cons_succ]
  refine AnyK.one (i := 6) (by kernel_rfl) rfl (fun K hK => ?_)
  go_simp
  refine (HW.out _ W.drew GG.out.drew).mono ?_
  rintro e w' ⟨a, n, c, rfl, H3⟩
  rw [List.append_assoc] at H3
  have dA1 : w'.cell? ⟨H, 0, none⟩ = some (.pointer (some ⟨tb, 0, none⟩)) := (H3.blk l1.length (b := H) (t := 29) (c := #[.pointer (some ⟨tb, 0, none⟩)]) (by rw [List.getElem?_append_right (by simp)]; simp)).cell 0
  have BB := H3.blk (l1.length + 1) (b := H + 1) (t := 4) (c := #[.bool false]) (by rw [List.getElem?_append_right (by simp)]; simp)
  have BA := H3.blk l1.length (b := H) (t := 29) (c := #[.pointer (some ⟨tb, 0, none⟩)]) (by rw [List.getElem?_append_right (by simp)]; simp)
  obtain ⟨_, _, Go⟩ := H3.openTh (T := T1) (tb := tb) i (by rw [List.getElem?_append_left (by simpa using hi1)]; exact List.getElem?_set_self hi1)
  have d1 : w'.cell? ⟨tb, 0, none⟩ = some (.func (.func f) first cap) := by rw [← hwork, ← hw1]; exact Go.thBlk.cell 0
  refine hK.out _ _ (fun _ => ⟨dA1, d1⟩) ?_
  clear hK K HW GG q0 dA d0
  have hneA : ¬ tb = H := fun e => by
    have hb := Go.thBlk
    subst e
    exact hb.ne BA (by decide) rfl
  have hneB : ¬ tb = H + 1 := fun e => by
    have hb := Go.thBlk
    subst e
    exact hb.ne BB (by decide) rfl
  have hneA' : ¬ H = tb := fun e => hneA e.symm
  have d6 : w'.cell? ⟨tb, 6, none⟩ = some T1.out := Go.thBlk.cell 6
  have d5 : w'.cell? ⟨tb, 5, none⟩ = some (.bool T1.done) := Go.thBlk.cell 5
  have z5 := Go.thBlk.froz 5
  have z6 := Go.thBlk.froz 6
  have dB : w'.cell? ⟨H + 1, 0, none⟩ = some (.bool false) := BB.cell 0
  have zB := BB.froz 0
  have GO := Lib.hid Go
  clear H3 Go BA BB
  try simp only [Act.put, List.setIfInBounds_toArray, List.set_cons_zero, List.set_cons_succ]
  refine AnyK.one (i := 7) (by kernel_rfl) rfl (fun K hK => ?_)
  go_simp
  refine hK.out _ _ (fun _ => ⟨dA1, d1⟩) ?_
  clear hK K
  try simp only [Act.put, List.setIfInBounds_toArray, List.set_cons_zero, List.set_cons_succ]
  refine AnyK.one (i := 8) (by kernel_rfl) rfl (fun K hK => ?_)
  go_simp
  refine hK.out _ _ (fun _ => ⟨dA1, d1⟩) ?_
  clear hK K
  try simp only [Act.put, List.setIfInBounds_toArray, List.set_cons_zero, List.set_cons_succ]
  refine AnyK.one (i := 9) (by kernel_rfl) rfl (fun K hK => ?_)
  go_simp
  refine hK.out _ _ (fun _ => ⟨by simp [go_sem, dA1, hneA'], by simp [go_sem, d1]⟩) ?_
  clear hK K
  try simp only [Act.put, List.setIfInBounds_toArray, List.set_cons_zero, List.set_cons_succ]
  refine AnyK.done (by kernel_rfl) ?_ _
  go_wp2_with fail
  have hE : ∀ (q : Piece), (l1.set i q ++ ([blkP H 29 #[.pointer (some ⟨tb, 0, none⟩)], blkP (H + 1) 4 #[.bool false]] ++ E (.slice a n c)))[l1.length + 1]? = some (blkP (H + 1) 4 #[.bool false]) := fun q => by
    rw [List.getElem?_append_right (by simp)]; simp
  have hE2 : ∀ (q : Piece), (l1.set i q ++ ([blkP H 29 #[.pointer (some ⟨tb, 0, none⟩)], blkP (H + 1) 4 #[.bool true]] ++ E (.slice a n c)))[l1.length + 1]? = some (blkP (H + 1) 4 #[.bool true]) := fun q => by
    rw [List.getElem?_append_right (by simp)]; simp
  have hEA : ∀ (q : Piece), (l1.set i q ++ ([blkP H 29 #[.pointer (some ⟨tb, 0, none⟩)], blkP (H + 1) 4 #[.bool true]] ++ E (.slice a n c)))[l1.length]? = some (blkP H 29 #[.pointer (some ⟨tb, 0, none⟩)]) := fun q => by
    rw [List.getElem?_append_right (by simp)]; simp
  have G5 := ((GO.out.thSet (T' := { T1 with out := .slice a n c }) 6 (.slice a n c) rfl rfl).thSet (T' := { T1 with out := .slice a n c, done := true }) 5 (.bool true) rfl rfl).shutTh (by simp; omega)
  rw [List.set_append_left _ _ (by simpa using hi1), List.set_set] at G5
  have eL : (l1.set i (thP tb { T1 with out := .slice a n c, done := true }) ++ ([blkP H 29 #[.pointer (some ⟨tb, 0, none⟩)], blkP (H + 1) 4 #[.bool false]] ++ E (.slice a n c))).set (l1.length + 1) (blkP (H + 1) 4 (#[.bool false].setIfInBounds 0 (.bool true))) = l1.set i (thP tb { T1 with out := .slice a n c, done := true }) ++ ([blkP H 29 #[.pointer (some ⟨tb, 0, none⟩)], blkP (H + 1) 4 #[.bool true]] ++ E (.slice a n c)) := by
    rw [List.set_append_right _ _ (by simp)]; simp
  have G6 : Heap w0 (((w'.setCell ⟨tb, 6, none⟩ (.slice a n c)).setCell ⟨tb, 5, none⟩ (.bool true)).setCell ⟨H + 1, 0, none⟩ (.bool true)) (l1.set i (thP tb { T1 with out := .slice a n c, done := true }) ++ ([blkP H 29 #[.pointer (some ⟨tb, 0, none⟩)], blkP (H + 1) 4 #[.bool true]] ++ E (.slice a n c))) := by
    rw [← eL]
    exact G5.setCell (l1.length + 1) (b := H + 1) (t := 4) (c := #[.bool false]) (hE _) 0 (.bool true)
  have kA : (((w'.setCell ⟨tb, 6, none⟩ (.slice a n c)).setCell ⟨tb, 5, none⟩ (.bool true)).setCell ⟨H + 1, 0, none⟩ (.bool true)).cell? ⟨H, 0, none⟩ = some (.pointer (some ⟨tb, 0, none⟩)) := (G6.blk l1.length (hEA _)).cell 0
  obtain ⟨_, _, Go⟩ := G6.openTh (T := { T1 with out := .slice a n c, done := true }) (tb := tb) i (by rw [List.getElem?_append_left (by simpa using hi1)]; exact List.getElem?_set_self hi1)
  have k4 : (((w'.setCell ⟨tb, 6, none⟩ (.slice a n c)).setCell ⟨tb, 5, none⟩ (.bool true)).setCell ⟨H + 1, 0, none⟩ (.bool true)).cell? ⟨tb, 4, none⟩ = some (Value.bool T1.inn) := Go.thBlk.cell 4
  have G7 := (Go.thSet (T' := { T1 with out := .slice a n c, done := true, inn := false }) 4 (.bool false) rfl rfl).shutTh (by simp; omega)
  rw [List.set_append_left _ _ (by simpa using hi1), List.set_set] at G7
  have kB : ((((w'.setCell ⟨tb, 6, none⟩ (.slice a n c)).setCell ⟨tb, 5, none⟩ (.bool true)).setCell ⟨H + 1, 0, none⟩ (.bool true)).setCell ⟨tb, 4, none⟩ (.bool false)).cell? ⟨H + 1, 0, none⟩ = some (Value.bool true) := (G7.blk (l1.length + 1) (hE2 _)).cell 0
  have z4 := Go.thBlk.froz 4
  rw [← List.append_assoc] at G7
  have GF := Heap.mid G7
  refine leaves_cons (f := 38) (args := #[.pointer (some ⟨H, 0, none⟩), .pointer (some ⟨H + 1, 0, none⟩)]) (by simp) (by simp [go_sem]) ?_
  refine (catch_idle kA k4 z4).mono ?_
  rintro e u' w'' ⟨rfl, rfl, rfl⟩
  simp [Leaves, settle, results, Try.results36, go_sem, kB]
  exact ⟨_, _, _, GF⟩
end
end Go.Proofs.Ytblijgdmfohfcaa
