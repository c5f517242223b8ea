/- The laws' same, of equal numbers: yes. A runner in memory: what Next makes of it and of the cell. No condition but the bounds of size. -/
import Derived.Test.YthkohomogknddaaThF
import Derived.Test.YthkohomogknddaaK1
namespace Go.Proofs.Ythkohomogknddaa
open Go Go.RowKit
set_option linter.unusedVariables false
set_option linter.unusedSimpArgs false
theorem intC_at' (l : List Int) (k : Nat) (x : Int) (h : l[k]? = some x) : (intC l)[k]? = some (.int .i64 x) := by
  simp only [intC, List.getElem?_map, h, Option.map_some]
def tcC (ps : List Tc) : List Value := ps.flatMap fun x => [.int .u8 x.d, .int .i8 x.k]
theorem tcC_length (ps : List Tc) : (tcC ps).length = ps.length * 2 := by
  induction ps with
  | nil => rfl
  | cons x l ih => simp only [tcC, List.flatMap_cons, List.length_append, List.length_cons, List.length_nil] at ih ⊢; omega
theorem tcC_get : ∀ (ps : List Tc) (i : Nat) (x : Tc), ps[i]? = some x → (tcC ps)[i * 2]? = some (.int .u8 x.d) ∧ (tcC ps)[i * 2 + 1]? = some (.int .i8 x.k)
  | [], i, x, h => by simp at h
  | y :: l, 0, x, h => by
    simp at h; subst h
    exact ⟨rfl, rfl⟩
  | y :: l, i + 1, x, h => by
    simp at h
    have := tcC_get l i x h
    have e : tcC (y :: l) = [.int .u8 y.d, .int .i8 y.k] ++ tcC l := rfl
    rw [e, List.getElem?_append_right (by simp; omega), List.getElem?_append_right (by simp; omega)]
    simpa [show (i + 1) * 2 - 2 = i * 2 from by omega, show (i + 1) * 2 + 1 - 2 = i * 2 + 1 from by omega] using this
theorem tc_field (a : Addr) (n j : Nat) : a.add (n + (j + 1)) = ⟨(a.add n).block, (a.add n).off + (j + 1), none⟩ := by
  unfold Addr.add
  rw [if_neg (by omega)]
  split
  · simp_all
  · simp; omega
theorem th_set_id {α : Type} (l : List α) (i : Nat) (x : α) (h : l[i]? = some x) : l.set i x = l := by
  obtain ⟨hi, rfl⟩ := List.getElem?_eq_some_iff.1 h
  exact List.set_getElem_self hi
def Tc.ok (x : Tc) : Prop := (0 ≤ x.d ∧ x.d ≤ 255) ∧ (-128 ≤ x.k ∧ x.k ≤ 127)
/-- A runner: how far it is, what it was told. -/
structure Rn where
  at' : Nat
  told : List Int
def rnC (pv : Value) (r : Rn) (lv : Value) : Array Value := #[pv, .int .i64 (r.at' : Nat), lv]
def rnNext (ps : List Tc) (r : Rn) (s : Ce) : Bool × Rn × Ce := match ps[r.at']? with
  | some x => (decide (ps.length ≤ r.at' + (if s.n.tmod 2 = 0 then 1 else 2)), ⟨r.at' + (if s.n.tmod 2 = 0 then 1 else 2), r.told ++ [s.n]⟩, (ceDone x s).2)
  | none => (true, r, s)
end Go.Proofs.Ythkohomogknddaa
