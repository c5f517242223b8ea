/- Nodes made one behind the other; a tree that stands in an arena: the plain law. No program. -/
import Derived.Test.YtkbnoceekileiaaShp
import Derived.Test.YtkbnoceekileiaaNds
import Derived.Test.YtkbnoceekileiaaWdn
namespace Go.Proofs.Ytkbnoceekileiaa
open Go Go.RowKit
set_option linter.unusedVariables false
set_option linter.unusedSimpArgs false
set_option maxRecDepth 100000
/-- An arena with more nodes, each in a new place. -/
def addAr (ar : Ar) (nds : List Nd) : Ar := { ar with slots := ar.slots ++ nds.map (fun nd => newSl nd 1), used := ar.used + (nds.length : Int) }
def refsN (n m : Nat) : List Int := (List.range m).map fun i => refOf ((n + i : Nat) : Int) 1
theorem addAr_nil (ar : Ar) : addAr ar [] = ar := by simp [addAr]
theorem refsN_snoc (n m : Nat) : refsN n (m + 1) = refsN n m ++ [refOf ((n + m : Nat) : Int) 1] := by simp [refsN, List.range_succ]
theorem refsN_len (n m : Nat) : (refsN n m).length = m := by simp [refsN]
theorem alloc_add {ar : Ar} {nds : List Nd} (nd : Nd) (hf : ar.free = []) (hr : ar.used + (nds.length : Int) < ar.most) : allocAr nd (addAr ar nds) = ((refOf ((ar.slots.length + nds.length : Nat) : Int) 1, true), addAr ar (nds ++ [nd])) := by
  rw [alloc_next (ar := addAr ar nds) nd (by show ¬ ar.most ≤ ar.used + (nds.length : Int); omega) hf]
  unfold addAr
  simp only [Prod.mk.injEq, Ar.mk.injEq, List.length_append, List.length_map, List.map_append, List.map_cons, List.map_nil, List.append_assoc, true_and, and_true, List.length_cons, List.length_nil]
  omega
/-- The leaves of so many pairs each; their first keys. -/
def leafNds : List Nat → List (Int × Int) → List Nd
  | [], _ => []
  | k :: t, l => ⟨false, false, l.take k, [], []⟩ :: leafNds t (l.drop k)
def leafKeys : List Nat → List (Int × Int) → List Int
  | [], _ => []
  | k :: t, l => (l.getD 0 (0, 0)).1 :: leafKeys t (l.drop k)
/-- The nodes above a row of nodes; their first keys. -/
def upNds : List Nat → List Int → List Int → List Nd
  | [], _, _ => []
  | k :: t, row, fs => ⟨true, false, [], (fs.take k).drop 1, row.take k⟩ :: upNds t (row.drop k) (fs.drop k)
def upKeys : List Nat → List Int → List Int
  | [], _ => []
  | k :: t, fs => fs.getD 0 0 :: upKeys t (fs.drop k)
/-- The same, of trees. -/
def leafShs : List Nat → List (Int × Int) → List Sh
  | [], _ => []
  | k :: t, l => .mk true false (l.take k) [] [] :: leafShs t (l.drop k)
def upShs : List Nat → List Sh → List Int → List Sh
  | [], _, _ => []
  | k :: t, row, fs => .mk false false [] ((fs.take k).drop 1) (row.take k) :: upShs t (row.drop k) (fs.drop k)
mutual
/-- A tree stands at a reference. -/
def InAr (ar : Ar) : Sh → Int → Prop
  | .mk lf tg ps ks kids, r => ∃ p, arAt ar r = some p ∧ (ar.at p).nd.inner = !lf ∧ (ar.at p).nd.tagged = tg ∧ (ar.at p).nd.pairs = ps ∧ (ar.at p).nd.keys = ks ∧ (ar.at p).nd.ways.length = kids.length ∧ (ar.at p).ways.length = kids.length ∧ InArs ar kids (ar.at p).ways
def InArs (ar : Ar) : List Sh → List Int → Prop
  | [], _ => True
  | s :: l, r :: rs => InAr ar s r ∧ InArs ar l rs
  | _ :: _, [] => False
end
theorem arAt_more {ar : Ar} {r : Int} {p : Nat} (h : arAt ar r = some p) (nds : List Nd) : arAt (addAr ar nds) r = some p ∧ (addAr ar nds).at p = ar.at p := by
  obtain ⟨s, h1, h2, h3, h4⟩ := arAt_some h
  have hp := (List.getElem?_eq_some_iff.1 h1).1
  have hs : (addAr ar nds).slots[p]? = some s := by unfold addAr; dsimp only; rw [List.getElem?_append_left hp]; exact h1
  refine ⟨?_, by unfold Ar.at; rw [List.getD_eq_getElem?_getD, List.getD_eq_getElem?_getD, hs, h1]⟩
  unfold arAt
  dsimp only
  rw [h4]
  have e : (addAr ar nds).slots.getD (p : Int).toNat default = s := by
    rw [Int.toNat_natCast, List.getD_eq_getElem?_getD, hs]; rfl
  rw [if_pos ⟨by omega, by have := (List.getElem?_eq_some_iff.1 hs).1; omega, by rw [e]; exact h2, by rw [e]; exact h3⟩, Int.toNat_natCast]
/-- A new node's place. -/
theorem arAt_new {ar : Ar} {nds : List Nd} {i : Nat} {nd : Nd} (h : nds[i]? = some nd) (hs : ar.slots.length + nds.length ≤ 65535) : arAt (addAr ar nds) (refOf ((ar.slots.length + i : Nat) : Int) 1) = some (ar.slots.length + i) ∧ (addAr ar nds).at (ar.slots.length + i) = newSl nd 1 := by
  have hi := (List.getElem?_eq_some_iff.1 h).1
  have h1 : (addAr ar nds).slots[ar.slots.length + i]? = some (newSl nd 1) := by
    unfold addAr; dsimp only
    rw [List.getElem?_append_right (by omega), Nat.add_sub_cancel_left, List.getElem?_map, h]; rfl
  have hp := (List.getElem?_eq_some_iff.1 h1).1
  refine ⟨?_, by unfold Ar.at; rw [List.getD_eq_getElem?_getD, h1]; rfl⟩
  have h4 : refOf ((ar.slots.length + i : Nat) : Int) 1 % 1099511627776 - 1 = ((ar.slots.length + i : Nat) : Int) := by unfold refOf; omega
  unfold arAt
  dsimp only
  rw [h4]
  have e : (addAr ar nds).slots.getD ((ar.slots.length + i : Nat) : Int).toNat default = newSl nd 1 := by
    rw [Int.toNat_natCast, List.getD_eq_getElem?_getD, h1]; rfl
  rw [if_pos ⟨by omega, by omega, by rw [e]; rfl, by rw [e]; rfl⟩, Int.toNat_natCast]
mutual
theorem InAr.more {ar : Ar} (nds : List Nd) : ∀ (s : Sh) (r : Int), InAr ar s r → InAr (addAr ar nds) s r
  | .mk lf tg ps ks kids, r, h => by
    unfold InAr at h ⊢
    obtain ⟨p, h1, h2, h3, h4, h5, h6, h7, h8⟩ := h
    obtain ⟨k1, k2⟩ := arAt_more h1 nds
    refine ⟨p, k1, ?_⟩
    rw [k2]
    exact ⟨h2, h3, h4, h5, h6, h7, InArs.more nds kids _ h8⟩
theorem InArs.more {ar : Ar} (nds : List Nd) : ∀ (l : List Sh) (rs : List Int), InArs ar l rs → InArs (addAr ar nds) l rs
  | [], _, _ => by unfold InArs; trivial
  | s :: l, r :: rs, h => by
    unfold InArs at h ⊢
    exact ⟨InAr.more nds s r h.1, InArs.more nds l rs h.2⟩
  | _ :: _, [], h => by unfold InArs at h; exact h.elim
end
end Go.Proofs.Ytkbnoceekileiaa
