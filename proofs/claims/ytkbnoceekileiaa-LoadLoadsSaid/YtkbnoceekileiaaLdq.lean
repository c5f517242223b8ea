/- Rows of nodes, made of rows of trees: the plain law. No program. -/
import Derived.Test.YtkbnoceekileiaaLdp
namespace Go.Proofs.Ytkbnoceekileiaa
open Go Go.RowKit
set_option linter.unusedVariables false
set_option linter.unusedSimpArgs false
set_option maxRecDepth 100000
theorem addAr_add (ar : Ar) (a b : List Nd) : addAr (addAr ar a) b = addAr ar (a ++ b) := by
  unfold addAr
  simp only [List.map_append, List.append_assoc, List.length_append, Ar.mk.injEq, true_and, and_true]
  omega
theorem refsN_cons (n m : Nat) : refsN n (m + 1) = refOf (n : Int) 1 :: refsN (n + 1) m := by
  unfold refsN
  rw [List.range_succ_eq_map, List.map_cons, List.map_map]
  congr 1
  apply List.map_congr_left
  intro i _
  show refOf ((n + (i + 1) : Nat) : Int) 1 = refOf ((n + 1 + i : Nat) : Int) 1
  congr 2
  omega
theorem leafNds_len : ∀ (ps : List Nat) (l : List (Int × Int)), (leafNds ps l).length = ps.length
  | [], _ => rfl
  | k :: t, l => by simp [leafNds, leafNds_len t]
theorem upNds_len : ∀ (ps : List Nat) (a b : List Int), (upNds ps a b).length = ps.length
  | [], _, _ => rfl
  | k :: t, a, b => by simp [upNds, upNds_len t]
theorem leafShs_len : ∀ (ps : List Nat) (l : List (Int × Int)), (leafShs ps l).length = ps.length
  | [], _ => rfl
  | k :: t, l => by simp [leafShs, leafShs_len t]
theorem upShs_len : ∀ (ps : List Nat) (a : List Sh) (b : List Int), (upShs ps a b).length = ps.length
  | [], _, _ => rfl
  | k :: t, a, b => by simp [upShs, upShs_len t]
theorem InArs.takeN {ar : Ar} : ∀ (l : List Sh) (rs : List Int) (k : Nat), InArs ar l rs → InArs ar (l.take k) (rs.take k)
  | [], _, k, _ => by simp [InArs]
  | s :: l, r :: rs, 0, _ => by simp [InArs]
  | s :: l, r :: rs, k + 1, h => by
    unfold InArs at h
    rw [List.take_succ_cons, List.take_succ_cons]
    unfold InArs
    exact ⟨h.1, InArs.takeN l rs k h.2⟩
  | _ :: _, [], _, h => by unfold InArs at h; exact h.elim
theorem InArs.dropN {ar : Ar} : ∀ (l : List Sh) (rs : List Int) (k : Nat), InArs ar l rs → InArs ar (l.drop k) (rs.drop k)
  | [], _, k, _ => by simp [InArs]
  | s :: l, r :: rs, 0, h => h
  | s :: l, r :: rs, k + 1, h => by
    unfold InArs at h
    exact InArs.dropN l rs k h.2
  | _ :: _, [], _, h => by unfold InArs at h; exact h.elim
theorem leaf_in {ar : Ar} : ∀ (ps : List Nat) (l : List (Int × Int)) (pre post : List Nd), ar.slots.length + (pre ++ leafNds ps l ++ post).length ≤ 65535 →
    InArs (addAr ar (pre ++ leafNds ps l ++ post)) (leafShs ps l) (refsN (ar.slots.length + pre.length) ps.length)
  | [], l, pre, post, _ => by unfold leafShs InArs; trivial
  | k :: t, l, pre, post, h => by
    have e : pre ++ leafNds (k :: t) l ++ post = (pre ++ [⟨false, false, l.take k, [], []⟩]) ++ leafNds t (l.drop k) ++ post := by simp [leafNds]
    obtain ⟨h1, h2⟩ := arAt_new (ar := ar) (nds := pre ++ leafNds (k :: t) l ++ post) (i := pre.length) (nd := ⟨false, false, l.take k, [], []⟩) (by simp [leafNds]) h
    have ih := leaf_in t (l.drop k) (pre ++ [⟨false, false, l.take k, [], []⟩]) post (by rw [← e]; exact h)
    rw [← e] at ih
    rw [List.length_cons, refsN_cons]
    unfold leafShs InArs
    refine ⟨?_, by simpa [Nat.add_assoc] using ih⟩
    unfold InAr
    refine ⟨_, h1, ?_⟩
    rw [h2]
    refine ⟨rfl, rfl, rfl, rfl, rfl, rfl, ?_⟩
    unfold InArs
    trivial
theorem up_in {ar : Ar} : ∀ (ps : List Nat) (row : List Sh) (rs fs : List Int) (pre post : List Nd), ar.slots.length + (pre ++ upNds ps rs fs ++ post).length ≤ 65535 → row.length = rs.length → InArs (addAr ar pre) row rs →
    InArs (addAr ar (pre ++ upNds ps rs fs ++ post)) (upShs ps row fs) (refsN (ar.slots.length + pre.length) ps.length)
  | [], row, rs, fs, pre, post, _, _, _ => by unfold upShs InArs; trivial
  | k :: t, row, rs, fs, pre, post, h, hl, hin => by
    have e : pre ++ upNds (k :: t) rs fs ++ post = (pre ++ [⟨true, false, [], (fs.take k).drop 1, rs.take k⟩]) ++ upNds t (rs.drop k) (fs.drop k) ++ post := by simp [upNds]
    obtain ⟨h1, h2⟩ := arAt_new (ar := ar) (nds := pre ++ upNds (k :: t) rs fs ++ post) (i := pre.length) (nd := ⟨true, false, [], (fs.take k).drop 1, rs.take k⟩) (by simp [upNds]) h
    have hin2 : InArs (addAr ar (pre ++ [⟨true, false, [], (fs.take k).drop 1, rs.take k⟩])) row rs := by
      rw [← addAr_add]; exact InArs.more _ _ _ hin
    have hin3 : InArs (addAr ar (pre ++ upNds (k :: t) rs fs ++ post)) row rs := by
      rw [List.append_assoc, ← addAr_add]; exact InArs.more _ _ _ hin
    have ih := up_in t (row.drop k) (rs.drop k) (fs.drop k) (pre ++ [⟨true, false, [], (fs.take k).drop 1, rs.take k⟩]) post (by rw [← e]; exact h) (by rw [List.length_drop, List.length_drop, hl]) (InArs.dropN _ _ k hin2)
    rw [← e] at ih
    rw [List.length_cons, refsN_cons]
    unfold upShs InArs
    refine ⟨?_, by simpa [Nat.add_assoc] using ih⟩
    unfold InAr
    refine ⟨_, h1, ?_⟩
    rw [h2]
    refine ⟨rfl, rfl, rfl, rfl, ?_, ?_, InArs.takeN _ _ k hin3⟩
    · show (rs.take k).length = (row.take k).length
      rw [List.length_take, List.length_take, hl]
    · show (rs.take k).length = (row.take k).length
      rw [List.length_take, List.length_take, hl]
end Go.Proofs.Ytkbnoceekileiaa
