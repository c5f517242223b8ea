/- The even tree: its pairs, how many nodes it has. No program. -/
import Derived.Test.YtkbnoceekileiaaEvn
namespace Go.Proofs.Ytkbnoceekileiaa
open Go Go.RowKit
set_option linter.unusedVariables false
set_option linter.unusedSimpArgs false
set_option maxRecDepth 100000
mutual
/-- A tree's pairs, from left to right; its nodes. -/
def allSh : Sh → List (Int × Int)
  | .mk _ _ ps _ kids => ps ++ allShs kids
def allShs : List Sh → List (Int × Int)
  | [] => []
  | s :: l => allSh s ++ allShs l
end
theorem allShs_cons (s : Sh) (l : List Sh) : allShs (s :: l) = allSh s ++ allShs l := by rw [allShs]
theorem allSh_mk (lf tg : Bool) (ps : List (Int × Int)) (ks : List Int) (kids : List Sh) : allSh (.mk lf tg ps ks kids) = ps ++ allShs kids := by rw [allSh]
theorem sum_parts (d r : Nat) : ∀ k, ((List.range k).map fun i => d + if i < r then 1 else 0).sum = k * d + min r k
  | 0 => by simp
  | k + 1 => by
    rw [List.range_succ, List.map_append, List.sum_append, sum_parts d r k, Nat.add_mul]
    simp only [List.map_cons, List.map_nil, List.sum_cons, List.sum_nil]
    split <;> omega
theorem partsN_sum (n b : Nat) : (partsN n b).sum = n := by
  have h1 := partK_pos n b
  have h2 := sum_parts (n / partK n b) (n % partK n b) (partK n b)
  have h3 : (partsN n b).sum = partK n b * (n / partK n b) + min (n % partK n b) (partK n b) := h2
  rw [h3, Nat.min_eq_left (Nat.le_of_lt (Nat.mod_lt _ (by omega)))]
  exact Nat.div_add_mod n (partK n b)
theorem allShs_append : ∀ (a b : List Sh), allShs (a ++ b) = allShs a ++ allShs b
  | [], b => by simp [allShs]
  | s :: a, b => by simp [allShs, allShs_append a b]
theorem all_leaf : ∀ (ps : List Nat) (l : List (Int × Int)), l.length ≤ ps.sum → allShs (leafShs ps l) = l
  | [], l, h => by
    have : l = [] := List.eq_nil_of_length_eq_zero (by simpa using h)
    subst this
    simp [leafShs, allShs]
  | k :: t, l, h => by
    simp only [List.sum_cons] at h
    unfold leafShs allShs allSh
    rw [all_leaf t (l.drop k) (by rw [List.length_drop]; omega)]
    simp [allShs]
theorem all_up : ∀ (ps : List Nat) (row : List Sh) (fs : List Int), row.length ≤ ps.sum → allShs (upShs ps row fs) = allShs row
  | [], row, fs, h => by
    have : row = [] := List.eq_nil_of_length_eq_zero (by simpa using h)
    subst this
    simp [upShs, allShs]
  | k :: t, row, fs, h => by
    simp only [List.sum_cons] at h
    rw [upShs, allShs_cons, allSh_mk]
    rw [all_up t (row.drop k) (fs.drop k) (by rw [List.length_drop]; omega), List.nil_append, ← allShs_append, List.take_append_drop]
theorem all_evenUp {b : Nat} : ∀ (f : Nat) (row : List Sh) (fs : List Int), allShs (evenUp b f row fs) = allShs row
  | 0, _, _ => rfl
  | f + 1, row, fs => by
    unfold evenUp
    split
    · rfl
    · rw [all_evenUp f, all_up _ _ _ (by rw [partsN_sum]; exact Nat.le_refl _)]
theorem all_even {b : Nat} (hb : 2 ≤ b) (l : List (Int × Int)) : allSh (evenSh b l) = l := by
  unfold evenSh
  split
  · rename_i h
    subst h
    simp [nilSh, allSh, allShs]
  · rename_i h
    have hl : 1 ≤ l.length := by
      cases l with
      | nil => exact absurd rfl h
      | cons a t => simp
    have h1 := evenUp_one hb l.length (leafShs (partsN l.length b) l) (leafKeys (partsN l.length b) l) (by rw [leafShs_len, partsN_len]; exact partK_pos _ _) (by rw [leafShs_len, partsN_len]; have := partK_le (k := l.length) (show 1 ≤ b by omega) hl; omega)
    have h2 := all_evenUp (b := b) l.length (leafShs (partsN l.length b) l) (leafKeys (partsN l.length b) l)
    rw [all_leaf _ _ (by rw [partsN_sum]; exact Nat.le_refl _)] at h2
    match hq : evenUp b l.length (leafShs (partsN l.length b) l) (leafKeys (partsN l.length b) l), h1 with
    | [s], _ =>
      rw [hq] at h2
      simpa [allShs] using h2
/-- As many nodes are made as load.Nodes tells. -/
theorem loadUp_len {b n0 : Nat} : ∀ (f : Nat) (nds : List Nd) (row fs : List Int), (loadUp b n0 f nds row fs).1.length = nds.length + nodesUp b f row.length
  | 0, _, _, _ => by simp [loadUp, nodesUp]
  | f + 1, nds, row, fs => by
    unfold loadUp nodesUp
    by_cases h : row.length ≤ 1
    · rw [if_pos h, if_pos h]; rfl
    · rw [if_neg h, if_neg h, loadUp_len f, refsN_len, List.length_append, upNds_len, partsN_len]
      omega
end Go.Proofs.Ytkbnoceekileiaa
