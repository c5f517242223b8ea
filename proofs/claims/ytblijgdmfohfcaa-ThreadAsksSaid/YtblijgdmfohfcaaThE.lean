/- A thread: Step, Done, Steps, Out. No condition but on work, what it comes to. -/
import Derived.Test.YtblijgdmfohfcaaThD
namespace Go.Proofs.Ytblijgdmfohfcaa
open Go Go.RowKit
set_option linter.unusedVariables false
set_option linter.unusedSimpArgs false
theorem work_nil (fn : Fn) (first cap : Array Value) (z : World) : (binOp BinOp.eql 49 (.func fn first cap) .nilFunc).run Try.prog z = .ok (.bool false) z := by kernel_rfl
section
variable {w0 w : World} {l : List Piece} {tb : Nat} {T : Th}
set_option maxHeartbeats 4000000 in
theorem Step_wait (h : Heap w0 w l) (i : Nat) (hi : l[i]? = some (thP tb T)) (f : FuncId) (first cap : Array Value) (hwork : T.work = .func (.func f) first cap) (hdone : T.done = false)
    (hent : ∀ (x : Array Value) (z : World), (callFunc f x).run Try.prog z = .ok (.enter f x) z) (l1 : List Piece) (T1 : Th) (hi1 : i < l1.length)
    (hw : ∀ X z, Heap w0 z (l.set i (thP tb { T with at' := 0, spent := false, inn := true }) ++ X) → Calls Try.prog f (first.push (.pointer (some ⟨tb, 0, none⟩)) ++ cap) z fun e w' => e = .panicked [waitE] ∧ Heap w0 w' (l1.set i (thP tb T1) ++ X)) :
    Calls Try.prog 12 #[.pointer (some ⟨tb, 0, none⟩)] w fun e w' => e = .returned (.bool false) ∧ Heap w0 w' (l1.set i (thP tb { T1 with inn := false })) := by
  have hil := (List.getElem?_eq_some_iff.1 hi).1
  obtain ⟨a, c, H0⟩ := h.openTh i hi
  have c0 : w.cell? ⟨tb, 0, none⟩ = some (.func (.func f) first cap) := by rw [← hwork]; exact H0.thBlk.cell 0
  have c2 : w.cell? ⟨tb, 2, none⟩ = some (.int .i64 (T.at' : Nat)) := H0.thBlk.cell 2
  have c3 : w.cell? ⟨tb, 3, none⟩ = some (.bool T.spent) := H0.thBlk.cell 3
  have c5 : w.cell? ⟨tb, 5, none⟩ = some (.bool false) := by rw [← hdone]; exact H0.thBlk.cell 5
  have z2 := H0.thBlk.froz 2
  have z3 := H0.thBlk.froz 3
  have G1 := ((H0.thSet (T' := { T with at' := 0 }) 2 (.int .i64 0) rfl rfl).thSet (T' := { T with at' := 0, spent := false }) 3 (.bool false) rfl rfl).shutTh hil
  have C := Lib.hid (run_wait G1 i (List.getElem?_set_self hil) f first cap hwork hent l1 T1 hi1 (by rw [List.set_set]; exact hw))
  have hnf := fun z => work_nil (.func f) first cap z
  clear h H0 G1 hw hent
  go_enter Try.func12, Try.ntmps12
  go_wp2_with fail
  refine C.out.mono ?_
  rintro e w' ⟨rfl, H⟩
  go_wp2_with fail
  go_ret
  exact ⟨rfl, H⟩
set_option maxHeartbeats 4000000 in
theorem Step_done (h : Heap w0 w l) (i : Nat) (hi : l[i]? = some (thP tb T)) (f : FuncId) (first cap : Array Value) (hwork : T.work = .func (.func f) first cap) (hdone : T.done = false)
    (hent : ∀ (x : Array Value) (z : World), (callFunc f x).run Try.prog z = .ok (.enter f x) z) (l1 : List Piece) (T1 : Th) (hi1 : i < l1.length) (hw1 : T1.work = T.work) (E : Value → List Piece)
    (hw : ∀ X z, Heap w0 z (l.set i (thP tb { T with at' := 0, spent := false, inn := true }) ++ X) → Calls Try.prog f (first.push (.pointer (some ⟨tb, 0, none⟩)) ++ cap) z fun e w' => ∃ a n c, e = .returned (.slice a n c) ∧ Heap w0 w' (l1.set i (thP tb T1) ++ X ++ E (.slice a n c))) :
    Calls Try.prog 12 #[.pointer (some ⟨tb, 0, none⟩)] w fun e w' => ∃ a n c, e = .returned (.bool true) ∧ Heap w0 w' (l1.set i (thP tb { T1 with inn := false, done := true, out := .slice a n c }) ++ E (.slice a n c)) := by
  have hil := (List.getElem?_eq_some_iff.1 hi).1
  obtain ⟨a, c, H0⟩ := h.openTh i hi
  have c0 : w.cell? ⟨tb, 0, none⟩ = some (.func (.func f) first cap) := by rw [← hwork]; exact H0.thBlk.cell 0
  have c2 : w.cell? ⟨tb, 2, none⟩ = some (.int .i64 (T.at' : Nat)) := H0.thBlk.cell 2
  have c3 : w.cell? ⟨tb, 3, none⟩ = some (.bool T.spent) := H0.thBlk.cell 3
  have c5 : w.cell? ⟨tb, 5, none⟩ = some (.bool false) := by rw [← hdone]; exact H0.thBlk.cell 5
  have z2 := H0.thBlk.froz 2
  have z3 := H0.thBlk.froz 3
  have G1 := ((H0.thSet (T' := { T with at' := 0 }) 2 (.int .i64 0) rfl rfl).thSet (T' := { T with at' := 0, spent := false }) 3 (.bool false) rfl rfl).shutTh hil
  have C := Lib.hid (run_done G1 i (List.getElem?_set_self hil) f first cap hwork hent l1 T1 hi1 hw1 E (by rw [List.set_set]; exact hw))
  have hnf := fun z => work_nil (.func f) first cap z
  clear h H0 G1 hw hent
  go_enter Try.func12, Try.ntmps12
  go_wp2_with fail
  refine C.out.mono ?_
  rintro e w' ⟨a, n, c, rfl, H⟩
  go_wp2_with fail
  go_ret
  exact ⟨a, n, c, rfl, H⟩
/-- It is at its end. -/
theorem Step_over (h : Heap w0 w l) (i : Nat) (hi : l[i]? = some (thP tb T)) (hdone : T.done = true) :
    Calls Try.prog 12 #[.pointer (some ⟨tb, 0, none⟩)] w fun e w' => e = .returned (.bool true) ∧ w' = w := by
  obtain ⟨a, c, H0⟩ := h.openTh i hi
  have c5 : w.cell? ⟨tb, 5, none⟩ = some (.bool true) := by rw [← hdone]; exact H0.thBlk.cell 5
  clear h H0
  go_enter Try.func12, Try.ntmps12
  go_wp2_with fail
  go_ret
  exact ⟨rfl, rfl⟩
theorem Done_h (h : Heap w0 w l) (i : Nat) (hi : l[i]? = some (thP tb T)) (f : FuncId) (first cap : Array Value) (hwork : T.work = .func (.func f) first cap) :
    Calls Try.prog 14 #[.pointer (some ⟨tb, 0, none⟩)] w fun e w' => e = .returned (.bool T.done) ∧ w' = w := by
  obtain ⟨a, c, H0⟩ := h.openTh i hi
  have c0 : w.cell? ⟨tb, 0, none⟩ = some (.func (.func f) first cap) := by rw [← hwork]; exact H0.thBlk.cell 0
  have c5 : w.cell? ⟨tb, 5, none⟩ = some (.bool T.done) := H0.thBlk.cell 5
  have hnf := fun z => work_nil (.func f) first cap z
  clear h H0
  generalize T.done = d at *
  cases d
  · go_enter Try.func14, Try.ntmps14
    go_wp2_with fail
    go_ret
    exact ⟨rfl, rfl⟩
  · go_enter Try.func14, Try.ntmps14
    go_wp2_with fail
    go_ret
    exact ⟨rfl, rfl⟩
theorem Steps_h (h : Heap w0 w l) (i : Nat) (hi : l[i]? = some (thP tb T)) :
    Calls Try.prog 16 #[.pointer (some ⟨tb, 0, none⟩)] w fun e w' => e = .returned (.int .i64 (T.log.length : Nat)) ∧ w' = w := by
  obtain ⟨a, c, H0⟩ := h.openTh i hi
  have c1 : w.cell? ⟨tb, 1, none⟩ = some (.slice a T.log.length c) := H0.thBlk.cell 1
  clear h H0
  go_enter Try.func16, Try.ntmps16
  go_wp2_with fail
  go_ret
  exact ⟨rfl, rfl⟩
/-- Not at its end: it came to nothing. -/
theorem Out_none (h : Heap w0 w l) (i : Nat) (hi : l[i]? = some (thP tb T)) (hdone : T.done = false) :
    Calls Try.prog 17 #[.pointer (some ⟨tb, 0, none⟩)] w fun e w' => e = .returned (.slice none 0 0) ∧ w' = w := by
  obtain ⟨a, c, H0⟩ := h.openTh i hi
  have c5 : w.cell? ⟨tb, 5, none⟩ = some (.bool false) := by rw [← hdone]; exact H0.thBlk.cell 5
  clear h H0
  go_enter Try.func17, Try.ntmps17
  go_wp2_with fail
  go_ret
  exact ⟨rfl, rfl⟩
/-- At its end: a copy of what it came to. -/
theorem Out_some (h : Heap w0 w l) (i : Nat) (hi : l[i]? = some (thP tb T)) (hdone : T.done = true) (a1 : Option Addr) (n c1 : Nat) (hout : T.out = .slice a1 n c1) (us : List Int) (R : RdV w (.slice a1 n c1) n 1 (us.map (Value.int .i64))) (hn : n ≤ 1000000) :
    Calls Try.prog 17 #[.pointer (some ⟨tb, 0, none⟩)] w fun e w' => ∃ a2 c2, e = .returned (.slice a2 n c2) ∧ Heap w0 w' (l ++ [rowP 2 1 (.slice a2 n c2) n (us.map (Value.int .i64))]) := by
  obtain ⟨a, c, H0⟩ := h.openTh i hi
  have c5 : w.cell? ⟨tb, 5, none⟩ = some (.bool true) := by rw [← hdone]; exact H0.thBlk.cell 5
  have c6 : w.cell? ⟨tb, 6, none⟩ = some (.slice a1 n c1) := by rw [← hout]; exact H0.thBlk.cell 6
  obtain ⟨i0, hi0, hz0, hz1, hz2⟩ := info_parts info_i64t
  have I0 := Lib.hid (And.intro hi0 (And.intro hz0 (And.intro hz1 hz2)))
  have lt := H0.thBlk.lt
  have hlm : 0 + n ≤ maxLen := by unfold maxLen; omega
  have hlb : (0 + n) * 8 ≤ 140737488355328 := by omega
  have HL := Lib.hid (And.intro hlm hlb)
  have RR := Lib.hid R
  have HH := Lib.hid h
  clear h H0 hi0 hz0 hz1 hz2 hlm hlb R
  go_enter Try.func17, Try.ntmps17
  go_wp2_with (at_builtin; refine wpList_append_typed _ rfl _ _ _ (by rfl) 2 i0 (.int .i64 0) 1 8 Try.underlying26 I0.out.1 I0.out.2.1 I0.out.2.2.1 I0.out.2.2.2 rfl (by decide) (.slice (some ⟨w.heap.size, 0, none⟩) 0 0) 0 [] (by rfl) (QRow.none0 _ _) (.slice a1 n c1) n (us.map (Value.int .i64)) (by rfl) (RR.out.fr (S := nob) ((Fr.refl nob w).alloc _) (fun _ _ _ x => x)) (by intro u hu; obtain ⟨x, _, rfl⟩ := List.mem_map.1 hu; rfl) HL.out.1 HL.out.2 ?_)
  intro a2 c2 w2 q2 grow2 hat2
  have f2 : Fr nob w w2 := Fr.grown (by repeat (first | exact Fr.refl _ _ | apply Fr.drew | apply Fr.alloc)) grow2 (fun k hk => .inr (by simp [Value.ownBlock] at hk; omega))
  have GF := HH.out.pushRow f2 q2 (fun g hg => by
    rcases hat2 g hg with ⟨_, hw, ha, _, _⟩ | ⟨hx, c, hc⟩
    · rw [ha] at hg
      simp [Value.ownBlock] at hg
      subst hg
      rw [hw]
      exact ⟨Nat.le_refl _, by simp, #[], Blk.new _ _ _⟩
    · refine ⟨?_, hc.lt, c, hc⟩
      rcases hx with hx | hx
      · simp [Value.ownBlock] at hx; omega
      · omega)
  go_wp2_with fail
  go_ret
  exact ⟨a2, c2, rfl, GF⟩
end
end Go.Proofs.Ytblijgdmfohfcaa
