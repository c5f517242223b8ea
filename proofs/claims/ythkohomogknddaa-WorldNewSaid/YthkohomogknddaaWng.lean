/- The numbers of a world. No condition. -/
import Derived.Test.YthkohomogknddaaWWo1
import Derived.Test.YthkohomogknddaaUse
namespace Go.Proofs.Ythkohomogknddaa
open Go Go.RowKit
set_option linter.unusedVariables false
set_option linter.unusedSimpArgs false
set_option maxRecDepth 100000
def GoodNew (a b t n r : Int) : Prop := (2 ≤ a ∧ a ≤ 32) ∧ (2 * a - 1 ≤ b ∧ b ≤ 32) ∧ (1 ≤ t ∧ t ≤ 64) ∧ (2 ≤ n ∧ n ≤ 65536) ∧ (0 ≤ r ∧ r ≤ 65536)
theorem bad_new {a b t n r : Int} (h : ¬ GoodNew a b t n r) :
    a < 2 ∨ (2 ≤ a ∧ 32 < a) ∨ ((2 ≤ a ∧ a ≤ 32) ∧ b < 2 * a - 1) ∨ ((2 ≤ a ∧ a ≤ 32) ∧ 2 * a - 1 ≤ b ∧ 32 < b) ∨ ((2 ≤ a ∧ a ≤ 32) ∧ (2 * a - 1 ≤ b ∧ b ≤ 32) ∧ t < 1) ∨ ((2 ≤ a ∧ a ≤ 32) ∧ (2 * a - 1 ≤ b ∧ b ≤ 32) ∧ 1 ≤ t ∧ 64 < t)
      ∨ ((2 ≤ a ∧ a ≤ 32) ∧ (2 * a - 1 ≤ b ∧ b ≤ 32) ∧ (1 ≤ t ∧ t ≤ 64) ∧ n < 2) ∨ ((2 ≤ a ∧ a ≤ 32) ∧ (2 * a - 1 ≤ b ∧ b ≤ 32) ∧ (1 ≤ t ∧ t ≤ 64) ∧ 2 ≤ n ∧ 65536 < n)
      ∨ ((2 ≤ a ∧ a ≤ 32) ∧ (2 * a - 1 ≤ b ∧ b ≤ 32) ∧ (1 ≤ t ∧ t ≤ 64) ∧ (2 ≤ n ∧ n ≤ 65536) ∧ r < 0) ∨ ((2 ≤ a ∧ a ≤ 32) ∧ (2 * a - 1 ≤ b ∧ b ≤ 32) ∧ (1 ≤ t ∧ t ≤ 64) ∧ (2 ≤ n ∧ n ≤ 65536) ∧ 0 ≤ r ∧ 65536 < r) := by
  by_cases x0 : a < 2
  · exact .inl x0
  by_cases x1 : 32 < a
  · exact .inr (.inl ⟨by omega, x1⟩)
  by_cases x2 : b < 2 * a - 1
  · exact .inr (.inr (.inl ⟨⟨by omega, by omega⟩, x2⟩))
  by_cases x3 : 32 < b
  · exact .inr (.inr (.inr (.inl ⟨⟨by omega, by omega⟩, by omega, x3⟩)))
  by_cases x4 : t < 1
  · exact .inr (.inr (.inr (.inr (.inl ⟨⟨by omega, by omega⟩, ⟨by omega, by omega⟩, x4⟩))))
  by_cases x5 : 64 < t
  · exact .inr (.inr (.inr (.inr (.inr (.inl ⟨⟨by omega, by omega⟩, ⟨by omega, by omega⟩, by omega, x5⟩)))))
  by_cases x6 : n < 2
  · exact .inr (.inr (.inr (.inr (.inr (.inr (.inl ⟨⟨by omega, by omega⟩, ⟨by omega, by omega⟩, ⟨by omega, by omega⟩, x6⟩))))))
  by_cases x7 : 65536 < n
  · exact .inr (.inr (.inr (.inr (.inr (.inr (.inr (.inl ⟨⟨by omega, by omega⟩, ⟨by omega, by omega⟩, ⟨by omega, by omega⟩, by omega, x7⟩)))))))
  by_cases x8 : r < 0
  · exact .inr (.inr (.inr (.inr (.inr (.inr (.inr (.inr (.inl ⟨⟨by omega, by omega⟩, ⟨by omega, by omega⟩, ⟨by omega, by omega⟩, ⟨by omega, by omega⟩, x8⟩))))))))
  by_cases x9 : 65536 < r
  · exact .inr (.inr (.inr (.inr (.inr (.inr (.inr (.inr (.inr (⟨⟨by omega, by omega⟩, ⟨by omega, by omega⟩, ⟨by omega, by omega⟩, ⟨by omega, by omega⟩, by omega, x9⟩)))))))))
  exact absurd ⟨⟨by omega, by omega⟩, ⟨by omega, by omega⟩, ⟨by omega, by omega⟩, ⟨by omega, by omega⟩, by omega, by omega⟩ h
end Go.Proofs.Ythkohomogknddaa
