/- A thread: what run defers, in both modes. No condition. -/
import Derived.Test.YtblijgdmfohfcaaThB
import Derived.Defers
import Derived.Recover
namespace Go.Proofs.Ytblijgdmfohfcaa
open Go Go.RowKit
set_option linter.unusedVariables false
set_option linter.unusedSimpArgs false
theorem wait_some (z : World) : (binOp BinOp.eql 20 (.iface 60 (.agg #[])) .nilIface).run Try.prog z = .ok (.bool false) z := by kernel_rfl
theorem wait_guard (z : World) : (eqGuard BinOp.eql 20 (Operand.tmp 9) (Operand.const Value.nilIface) (.iface 60 (.agg #[])) .nilIface).run Try.prog z = .ok () z := by kernel_rfl
theorem nil_guard (z : World) : (eqGuard BinOp.eql 20 (Operand.tmp 9) (Operand.const Value.nilIface) .nilIface .nilIface).run Try.prog z = .ok () z := by kernel_rfl
theorem nil_none (z : World) : (binOp BinOp.eql 20 .nilIface .nilIface).run Try.prog z = .ok (.bool true) z := by kernel_rfl
theorem wait_is (z : World) : (Instr.typeAssert (.iface 60 (.agg #[])) 20 60 true).run Try.prog z = .ok (.tuple #[.agg #[], .bool true]) z := by kernel_rfl
section
variable {w : World} {A B tb : Nat} {x y : Bool}
set_option maxHeartbeats 4000000 in
set_option maxRecDepth 100000 in
theorem catch_wait (older : List PanicEntry) (hA : w.cell? ⟨A, 0, none⟩ = some (.pointer (some ⟨tb, 0, none⟩))) (h4 : w.cell? ⟨tb, 4, none⟩ = some (.bool x)) (z4 : w.frozen? ⟨tb, 4, none⟩ = false)
    (hB : w.cell? ⟨B, 0, none⟩ = some (.bool y)) (zB : w.frozen? ⟨B, 0, none⟩ = false) (hne : ¬ tb = B) (lB : B < w.heap.size) :
    CallsD Try.prog 38 #[.pointer (some ⟨A, 0, none⟩), .pointer (some ⟨B, 0, none⟩)] (.panicking (waitE :: older)) w fun e u' w' =>
      e = .returned (.tuple #[]) ∧ u' = .panicking ({ waitE with recovered := true } :: older) ∧ w' = ((w.setCell ⟨tb, 4, none⟩ (.bool false)).setCell ⟨B, 0, none⟩ (.bool false)).alloc (.cells #[] 60) := by
  refine callsD_of_wpS Try.func38 rfl fun c₀ cs hu => ?_
  unfold waitE at hu
  apply wpS_seq
  apply wpS_region
  simp [wpOpsS, go_sem, hA, h4, z4, Try.ntmps38, Exit.thenS]
  apply wpS_seq
  apply wpS_region
  simp [wpOpsS, go_sem, recoverD, hu, Exit.thenS]
  have hg := wait_guard
  have hq := wait_some
  have hta := wait_is
  refine wpS_of_wp (Code.wp_mono (Q := fun e a' w' => e = .normal ∧ a'.defers = [] ∧ w' = ((w.setCell ⟨tb, 4, none⟩ (.bool false)).setCell ⟨B, 0, none⟩ (.bool false)).alloc (.cells #[] 60)) ?_ ?_)
  · rintro e a' w' ⟨rfl, hd, rfl⟩
    exact ⟨hd, _, rfl, .tuple #[], by simp [results, Try.results38], rfl, rfl, rfl⟩
  change Code.wp Try.prog _ _ { tmps := #[.pointer (some ⟨A, 0, none⟩), .pointer (some ⟨B, 0, none⟩), .iface 60 (.agg #[]), undef, undef, .pointer (some ⟨tb, 0, none⟩), .pointer (some ⟨tb, 0, none⟩), .pointer (some ⟨tb, 4, none⟩), .iface 60 (.agg #[]), undef, undef, undef, undef, undef, undef, undef, undef, undef, undef], defers := [] } _
  clear hu
  go_wp2_with fail
set_option maxHeartbeats 4000000 in
set_option maxRecDepth 100000 in
theorem catch_idle (hA : w.cell? ⟨A, 0, none⟩ = some (.pointer (some ⟨tb, 0, none⟩))) (h4 : w.cell? ⟨tb, 4, none⟩ = some (.bool x)) (z4 : w.frozen? ⟨tb, 4, none⟩ = false) :
    CallsD Try.prog 38 #[.pointer (some ⟨A, 0, none⟩), .pointer (some ⟨B, 0, none⟩)] .returning w fun e u' w' =>
      e = .returned (.tuple #[]) ∧ u' = .returning ∧ w' = w.setCell ⟨tb, 4, none⟩ (.bool false) := by
  refine callsD_of_wpS Try.func38 rfl fun c₀ cs hu => ?_
  apply wpS_seq
  apply wpS_region
  simp [wpOpsS, go_sem, hA, h4, z4, Try.ntmps38, Exit.thenS]
  apply wpS_seq
  apply wpS_region
  simp [wpOpsS, go_sem, recoverD, hu, Exit.thenS]
  have hg := nil_guard
  have hq := nil_none
  refine wpS_of_wp (Code.wp_mono (Q := fun e a' w' => e = .ret ∧ a'.defers = [] ∧ w' = w.setCell ⟨tb, 4, none⟩ (.bool false)) ?_ ?_)
  · rintro e a' w' ⟨rfl, hd, rfl⟩
    refine ⟨hd, .returning, ?_, .tuple #[], by simp [results, Try.results38], rfl, rfl, rfl⟩
    rw [← hu]
  change Code.wp Try.prog _ _ { tmps := #[.pointer (some ⟨A, 0, none⟩), .pointer (some ⟨B, 0, none⟩), .nilIface, undef, undef, .pointer (some ⟨tb, 0, none⟩), .pointer (some ⟨tb, 0, none⟩), .pointer (some ⟨tb, 4, none⟩), .nilIface, undef, undef, undef, undef, undef, undef, undef, undef, undef, undef], defers := [] } _
  clear hu
  go_wp2_with fail
  trace_state
end
end Go.Proofs.Ytblijgdmfohfcaa
