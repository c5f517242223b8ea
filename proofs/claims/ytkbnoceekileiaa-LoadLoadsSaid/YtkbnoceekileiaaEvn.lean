/- The even tree of some pairs, and the nodes that load makes of them: the plain law. No program. -/
import Derived.Test.YtkbnoceekileiaaLdq
namespace Go.Proofs.Ytkbnoceekileiaa
open Go Go.RowKit
set_option linter.unusedVariables false
set_option linter.unusedSimpArgs false
set_option maxRecDepth 100000
def nilSh : Sh := .mk true false [] [] []
/-- Rows of trees above one another, till there is one. -/
def evenUp (b : Nat) : Nat → List Sh → List Int → List Sh
  | 0, row, _ => row
  | f + 1, row, fs => if row.length ≤ 1 then row else evenUp b f (upShs (partsN row.length b) row fs) (upKeys (partsN row.length b) fs)
def evenSh (b : Nat) (l : List (Int × Int)) : Sh := if l = [] then nilSh else (evenUp b l.length (leafShs (partsN l.length b) l) (leafKeys (partsN l.length b) l)).getD 0 nilSh
/-- Rows of nodes above one another: the nodes made so far, the row's references. -/
def loadUp (b n0 : Nat) : Nat → List Nd → List Int → List Int → List Nd × List Int
  | 0, nds, row, _ => (nds, row)
  | f + 1, nds, row, fs => if row.length ≤ 1 then (nds, row) else loadUp b n0 f (nds ++ upNds (partsN row.length b) row fs) (refsN (n0 + nds.length) (partK row.length b)) (upKeys (partsN row.length b) fs)
def loadNds (b n0 : Nat) (l : List (Int × Int)) : List Nd × List Int := loadUp b n0 l.length (leafNds (partsN l.length b) l) (refsN n0 (partK l.length b)) (leafKeys (partsN l.length b) l)
theorem loadUp_more (b n0 : Nat) : ∀ (f : Nat) (nds : List Nd) (row fs : List Int), nds.length ≤ (loadUp b n0 f nds row fs).1.length
  | 0, _, _, _ => Nat.le_refl _
  | f + 1, nds, row, fs => by
    unfold loadUp
    split
    · exact Nat.le_refl _
    · refine Nat.le_trans ?_ (loadUp_more b n0 f _ _ _)
      simp
theorem loadUp_in {ar : Ar} {b : Nat} : ∀ (f : Nat) (rowS : List Sh) (nds : List Nd) (row fs : List Int), ar.slots.length + (loadUp b ar.slots.length f nds row fs).1.length ≤ 65535 → rowS.length = row.length → InArs (addAr ar nds) rowS row →
    InArs (addAr ar (loadUp b ar.slots.length f nds row fs).1) (evenUp b f rowS fs) (loadUp b ar.slots.length f nds row fs).2 ∧ (evenUp b f rowS fs).length = (loadUp b ar.slots.length f nds row fs).2.length
  | 0, rowS, nds, row, fs, _, hl, hin => ⟨hin, hl⟩
  | f + 1, rowS, nds, row, fs, h, hl, hin => by
    unfold loadUp at h ⊢
    unfold evenUp
    rw [hl]
    by_cases hr : row.length ≤ 1
    · rw [if_pos hr, if_pos hr]
      exact ⟨hin, hl⟩
    · rw [if_neg hr] at h
      rw [if_neg hr, if_neg hr]
      have hm := loadUp_more b ar.slots.length f (nds ++ upNds (partsN row.length b) row fs) (refsN (ar.slots.length + nds.length) (partK row.length b)) (upKeys (partsN row.length b) fs)
      have h1 := up_in (ar := ar) (partsN row.length b) rowS row fs nds [] (by rw [List.append_nil]; omega) hl hin
      rw [List.append_nil, partsN_len] at h1
      exact loadUp_in f _ _ _ _ h (by rw [upShs_len, partsN_len, refsN_len]) h1
theorem load_in {ar : Ar} {b : Nat} {l : List (Int × Int)} (hl : l ≠ []) (h : ar.slots.length + (loadNds b ar.slots.length l).1.length ≤ 65535) :
    InArs (addAr ar (loadNds b ar.slots.length l).1) (evenUp b l.length (leafShs (partsN l.length b) l) (leafKeys (partsN l.length b) l)) (loadNds b ar.slots.length l).2 := by
  unfold loadNds at h ⊢
  have hm := loadUp_more b ar.slots.length l.length (leafNds (partsN l.length b) l) (refsN ar.slots.length (partK l.length b)) (leafKeys (partsN l.length b) l)
  have h1 := leaf_in (ar := ar) (partsN l.length b) l [] [] (by simp only [List.nil_append, List.append_nil]; omega)
  simp only [List.nil_append, List.append_nil, List.length_nil, Nat.add_zero, partsN_len] at h1
  exact (loadUp_in l.length _ _ _ _ h (by rw [leafShs_len, partsN_len, refsN_len]) h1).1
/-- With so many rounds as there are entries one alone is left. -/
theorem evenUp_one {b : Nat} (hb : 2 ≤ b) : ∀ (f : Nat) (row : List Sh) (fs : List Int), 1 ≤ row.length → row.length ≤ f + 1 → (evenUp b f row fs).length = 1
  | 0, row, fs, h1, h2 => by unfold evenUp; omega
  | f + 1, row, fs, h1, h2 => by
    unfold evenUp
    split
    · omega
    · rename_i hr
      have h3 := partK_less hb (show 2 ≤ row.length by omega)
      exact evenUp_one hb f _ _ (by rw [upShs_len, partsN_len]; exact partK_pos _ _) (by rw [upShs_len, partsN_len]; omega)
end Go.Proofs.Ytkbnoceekileiaa
