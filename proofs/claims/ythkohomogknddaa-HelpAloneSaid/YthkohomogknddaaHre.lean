/- Two records that were made of the same time: what is at the end. No program. -/
import Derived.Test.YthkohomogknddaaHry
namespace Go.Proofs.Ythkohomogknddaa
open Go Go.RowKit
set_option linter.unusedVariables false
set_option linter.unusedSimpArgs false
set_option maxRecDepth 100000
section
variable {A B : Rv} {x : H2}
/-- Both have come to an end: with a node in common just one is done, else both are. -/
theorem rv_end (hA : RvOk A) (hB : RvOk B) (hv : RvInv A B x) (d1 : x.s1 = 2 ∨ x.s1 = 0) (d2 : x.s2 = 2 ∨ x.s2 = 0) :
    ((∃ p, p ∈ A.ps ∧ p ∈ B.ps) → (x.s1 = 2 ∧ x.s2 = 0) ∨ (x.s1 = 0 ∧ x.s2 = 2)) ∧ ((∀ p, p ∈ A.ps → p ∉ B.ps) → x.s1 = 2 ∧ x.s2 = 2) := by
  have t1 : x.s1 = 1 ∨ (x.s1 = 0 ∧ Lost A 1 x) ∨ (x.s1 = 2 ∧ AllR A 1 x ∧ WayR A x) := hv.st true
  have t2 : x.s2 = 1 ∨ (x.s2 = 0 ∧ Lost B 2 x) ∨ (x.s2 = 2 ∧ AllR B 2 x ∧ WayR B x) := hv.st false
  refine ⟨fun ⟨p, ha, hb⟩ => ?_, fun hn => ?_⟩
  · have h5 := hA.lt p ha
    rcases d1 with d1 | d1 <;> rcases d2 with d2 | d2
    · have a1 : AllR A 1 x := by
        rcases t1 with h | ⟨h, _⟩ | ⟨_, h, _⟩
        · omega
        · omega
        · exact h
      have a2 : AllR B 2 x := by
        rcases t2 with h | ⟨h, _⟩ | ⟨_, h, _⟩
        · omega
        · omega
        · exact h
      exact (not_both hv ha hb h5 a1 a2).elim
    · exact .inl ⟨d1, d2⟩
    · exact .inr ⟨d1, d2⟩
    · have a1 : Lost A 1 x := by
        rcases t1 with h | ⟨_, h⟩ | ⟨h, _⟩
        · omega
        · exact h
        · omega
      have a2 : Lost B 2 x := by
        rcases t2 with h | ⟨_, h⟩ | ⟨h, _⟩
        · omega
        · exact h
        · omega
      exact (not_lost hv hA.up hB.up a1 a2).elim
  · have key : ∀ (R : Rv) (n : Int), (∀ (p : Nat) (y : Nk), p ∈ R.ps → x.L[p]? = some y → y.inf = 0 ∨ y.inf = n) → ¬ Lost R n x := fun R n h ⟨p, y, p1, p2, p3, p4⟩ => by
      rcases h p y p1 p2 with h | h
      · exact p3 h
      · exact p4 h
    have n1 := key A 1 (fun p y hp hy => by
      rcases hv.rng p y hy with h | ⟨w, h, h'⟩
      · exact .inl h
      · cases w with
        | true => exact .inr h
        | false => exact absurd h' (hn p hp))
    have n2 := key B 2 (fun p y hp hy => by
      rcases hv.rng p y hy with h | ⟨w, h, h'⟩
      · exact .inl h
      · cases w with
        | true => exact absurd hp (hn p h')
        | false => exact .inr h)
    constructor
    · rcases d1 with d1 | d1
      · exact d1
      · rcases t1 with h | ⟨_, h⟩ | ⟨h, _⟩
        · omega
        · exact absurd h n1
        · omega
    · rcases d2 with d2 | d2
      · exact d2
      · rcases t2 with h | ⟨_, h⟩ | ⟨h, _⟩
        · omega
        · exact absurd h n2
        · omega
/-- A node's way at the end. -/
theorem rv_ways (hA : RvOk A) (hB : RvOk B) (hv : RvInv A B x) (d1 : x.s1 = 2 ∨ x.s1 = 0) (d2 : x.s2 = 2 ∨ x.s2 = 0) {p : Nat} {y : Nk} (hy : x.L[p]? = some y) (hp : p < 5) :
    y.a = if x.s2 = 2 ∧ p = B.hd then B.nw else if x.s1 = 2 ∧ p = A.hd then A.nw else 200 + 10 * (p : Int) := by
  have t1 : x.s1 = 1 ∨ (x.s1 = 0 ∧ Lost A 1 x) ∨ (x.s1 = 2 ∧ AllR A 1 x ∧ WayR A x) := hv.st true
  have t2 : x.s2 = 1 ∨ (x.s2 = 0 ∧ Lost B 2 x) ∨ (x.s2 = 2 ∧ AllR B 2 x ∧ WayR B x) := hv.st false
  split
  · rename_i h
    rcases t2 with h' | ⟨h', _⟩ | ⟨_, _, h'⟩
    · omega
    · omega
    · exact h' y (h.2 ▸ hy)
  · rename_i hb
    split
    · rename_i h
      rcases t1 with h' | ⟨h', _⟩ | ⟨_, _, h'⟩
      · omega
      · omega
      · exact h' y (h.2 ▸ hy)
    · rename_i ha
      rcases hv.way p y hy with h | ⟨w, e1, e2, e3⟩
      · exact h
      · cases w with
        | true =>
          have e2 : p = A.hd := e2
          rcases t1 with h' | ⟨_, h'⟩ | ⟨h', _⟩
          · omega
          · exact (lost_all h' e3).elim
          · exact absurd ⟨h', e2⟩ ha
        | false =>
          have e2 : p = B.hd := e2
          rcases t2 with h' | ⟨_, h'⟩ | ⟨h', _⟩
          · omega
          · exact (lost_all h' e3).elim
          · exact absurd ⟨h', e2⟩ hb
end
end Go.Proofs.Ythkohomogknddaa
