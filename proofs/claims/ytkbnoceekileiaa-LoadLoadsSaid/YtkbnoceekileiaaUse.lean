/- The arena's Used, Faults, Most, in heap form. No condition. -/
import Derived.Test.YtkbnoceekileiaaK2
namespace Go.Proofs.Ytkbnoceekileiaa
open Go Go.RowKit
section
variable {w0 w : World} {l : List Piece} {a : Nat} {ar : Ar}
theorem Faults_h (h : Heap w0 w l) (i : Nat) (hi : l[i]? = some (areP a ar)) : Calls Try.prog 39 #[.pointer (some ⟨a, 0, none⟩)] w fun e w' => e = .returned (.int .i64 ar.faults) ∧ w' = w := by
  obtain ⟨S, hS, _⟩ := h.get i hi
  exact Faults_calls hS
theorem Used_h (h : Heap w0 w l) (i : Nat) (hi : l[i]? = some (areP a ar)) : Calls Try.prog 33 #[.pointer (some ⟨a, 0, none⟩)] w fun e w' => e = .returned (.int .i64 ar.used) ∧ w' = w := by
  obtain ⟨S, hS, _⟩ := h.get i hi
  exact Used_calls hS
theorem Most_h (h : Heap w0 w l) (i : Nat) (hi : l[i]? = some (areP a ar)) : Calls Try.prog 56 #[.pointer (some ⟨a, 0, none⟩)] w fun e w' => e = .returned (.int .i64 ar.most) ∧ w' = w := by
  obtain ⟨S, hS, _⟩ := h.get i hi
  exact Most_calls hS
end
end Go.Proofs.Ytkbnoceekileiaa
