/- Some inner nodes in a world: how they come to be; what a touch does to them. No condition but how many there are. -/
import Derived.Test.YthkohomogknddaaHru
import Derived.Test.YthkohomogknddaaFre
import Derived.Test.YthkohomogknddaaLev
namespace Go.Proofs.Ythkohomogknddaa
open Go Go.RowKit
set_option linter.unusedVariables false
set_option linter.unusedSimpArgs false
set_option maxRecDepth 100000
/-- What may change of a node. -/
structure Nk where
  inf : Int
  mrk : Bool
  a : Int
  b : Int
def nkNd (i : Nat) : Nd := ⟨true, false, [], [5], [200 + 10 * (i : Int), 201 + 10 * (i : Int)]⟩
def nkSl (i : Nat) (k : Nk) : Sl := ⟨nkNd i, [k.a, k.b], k.inf, k.mrk, 1, true⟩
def nkS (l : List Nk) : Ar := ⟨[rootSl, entrySl] ++ l.mapIdx nkSl, [], 60, 2 + (l.length : Int), 0⟩
def fresh (k : Nat) : List Nk := (List.range k).map fun (i : Nat) => ⟨0, false, 200 + 10 * (i : Int), 201 + 10 * (i : Int)⟩
def ndW (t k : Nat) : Wd := ⟨nkS (fresh k), ⟨[], 40⟩, ⟨0, List.replicate t (-1), List.replicate t []⟩⟩
theorem nkS_len (l : List Nk) : (nkS l).slots.length = 2 + l.length := by simp [nkS]; omega
theorem nkS_get {l : List Nk} {i : Nat} {k : Nk} (h : l[i]? = some k) : (nkS l).at (2 + i) = nkSl i k := by
  unfold Ar.at nkS
  simp only [List.getD_eq_getElem?_getD]
  rw [List.getElem?_append_right (by simp)]
  simp [List.getElem?_mapIdx, h]
theorem arAt_nk {l : List Nk} {i : Nat} (h : i < l.length) (hl : l.length ≤ 1000) : arAt (nkS l) (told i) = some (2 + i) :=
  arAt_told (by rw [nkS_len]; omega) (by omega) (by rw [nkS_get (List.getElem?_eq_getElem h)]; rfl) (by rw [nkS_get (List.getElem?_eq_getElem h)]; rfl)
theorem nkS_put {l : List Nk} {i : Nat} (h : i < l.length) (k : Nk) : (nkS l).put (2 + i) (nkSl i k) = nkS (l.set i k) := by
  unfold Ar.put nkS
  simp only [Ar.mk.injEq, List.length_set, and_self, and_true, true_and]
  rw [List.set_append_right _ _ (by simp)]
  congr 1
  apply List.ext_getElem?
  intro j
  simp only [List.length_cons, List.length_nil, Nat.add_sub_cancel_left, List.getElem?_set, List.getElem?_mapIdx, List.length_mapIdx]
  by_cases hj : i = j
  · subst hj; simp [h]
  · simp [hj]
theorem nk_info {l : List Nk} {i : Nat} {k : Nk} (h : l[i]? = some k) (hl : l.length ≤ 1000) : infoAr (told i) (nkS l) = (k.inf, nkS l) := by
  unfold infoAr
  rw [arAt_nk (List.getElem?_eq_some_iff.1 h).1 hl]
  simp only [nkS_get h]; rfl
theorem nk_mark {l : List Nk} {i : Nat} {k : Nk} (h : l[i]? = some k) (hl : l.length ≤ 1000) : markAr (told i) (nkS l) = (k.mrk, nkS l) := by
  unfold markAr
  rw [arAt_nk (List.getElem?_eq_some_iff.1 h).1 hl]
  simp only [nkS_get h]; rfl
theorem nk_setMark {l : List Nk} {i : Nat} {k : Nk} (h : l[i]? = some k) (hl : l.length ≤ 1000) : setMarkAr (told i) (nkS l) = nkS (l.set i { k with mrk := true }) := by
  unfold setMarkAr
  rw [arAt_nk (List.getElem?_eq_some_iff.1 h).1 hl]
  simp only [nkS_get h]
  exact nkS_put (List.getElem?_eq_some_iff.1 h).1 { k with mrk := true }
theorem nk_swapInfo {l : List Nk} {i : Nat} {k : Nk} (h : l[i]? = some k) (hl : l.length ≤ 1000) (old now : Int) : swapInfoAr (told i) old now (nkS l) = if k.inf = old then (true, nkS (l.set i { k with inf := now })) else (false, nkS l) := by
  unfold swapInfoAr
  rw [arAt_nk (List.getElem?_eq_some_iff.1 h).1 hl]
  simp only [nkS_get h, nkSl]
  split
  · rw [← nkS_put (List.getElem?_eq_some_iff.1 h).1 { k with inf := now }]; rfl
  · rfl
theorem nk_way {l : List Nk} {i : Nat} {k : Nk} (h : l[i]? = some k) (hl : l.length ≤ 1000) : wayAr (told i) 0 (nkS l) = (k.a, nkS l) ∧ wayAr (told i) 1 (nkS l) = (k.b, nkS l) := by
  unfold wayAr
  rw [arAt_nk (List.getElem?_eq_some_iff.1 h).1 hl]
  simp only [nkS_get h, nkSl]
  exact ⟨rfl, rfl⟩
theorem nk_swapWay {l : List Nk} {i : Nat} {k : Nk} (h : l[i]? = some k) (hl : l.length ≤ 1000) (way old now : Int) :
    swapWayAr (told i) way old now (nkS l) = if way = 0 ∧ k.a = old then (true, nkS (l.set i { k with a := now })) else if way = 1 ∧ k.b = old then (true, nkS (l.set i { k with b := now })) else (false, nkS l) := by
  unfold swapWayAr
  rw [arAt_nk (List.getElem?_eq_some_iff.1 h).1 hl]
  simp only [nkS_get h, nkSl]
  have hi := (List.getElem?_eq_some_iff.1 h).1
  rcases (by omega : way < 0 ∨ way = 0 ∨ way = 1 ∨ 2 ≤ way) with hw | rfl | rfl | hw
  · rw [if_neg (by omega), if_neg (by omega), if_neg (by omega)]
  · by_cases e : k.a = old
    · rw [if_pos ⟨by omega, by simp, by simpa using e⟩, if_pos ⟨rfl, e⟩, ← nkS_put hi { k with a := now }]; rfl
    · rw [if_neg (fun x => e (by simpa using x.2.2)), if_neg (fun x => e x.2), if_neg (fun x => by omega)]
  · by_cases e : k.b = old
    · rw [if_pos ⟨by omega, by simp, by simpa using e⟩, if_neg (fun x => by omega), if_pos ⟨rfl, e⟩, ← nkS_put hi { k with b := now }]; rfl
    · rw [if_neg (fun x => e (by simpa using x.2.2)), if_neg (fun x => by omega), if_neg (fun x => e x.2)]
  · rw [if_neg (fun x => by have := x.2.1; simp at this; omega), if_neg (by omega), if_neg (by omega)]
theorem nkS_more {l : List Nk} (h : l.length ≤ 5) : MoreAr (nkS l) := more_small _ 60 _ (by omega) (by simp; omega) (by omega) (fun s hs => by
  rcases List.mem_append.1 hs with hs | hs
  · simp at hs
    rcases hs with rfl | rfl
    · show 1 ≤ 10; omega
    · show 1 ≤ 10; omega
  · obtain ⟨i, hi, rfl⟩ := List.mem_mapIdx.1 hs
    show 1 ≤ 10; omega)
theorem fresh_succ (k : Nat) : fresh (k + 1) = fresh k ++ [⟨0, false, 200 + 10 * (k : Int), 201 + 10 * (k : Int)⟩] := by
  unfold fresh; rw [List.range_succ]; simp
theorem fresh_len (k : Nat) : (fresh k).length = k := by simp [fresh]
theorem nk_alloc {k : Nat} (h : k ≤ 5) : allocAr (nkNd k) (nkS (fresh k)) = ((told k, true), nkS (fresh (k + 1))) := by
  rw [alloc_next (nkNd k) (by show ¬ (60 : Int) ≤ 2 + ((fresh k).length : Int); rw [fresh_len]; omega) rfl]
  rw [nkS_len, fresh_len]
  unfold told nkS
  simp only [Prod.mk.injEq, Ar.mk.injEq, true_and, and_true]
  refine ⟨?_, by rw [fresh_len, fresh_len]; omega⟩
  rw [fresh_succ, List.mapIdx_append]
  simp [newSl, nkSl, nkNd, fresh_len]
theorem nkS_ok {l : List Nk} {N : Nat} (h : l.length ≤ 5) (hN : 10 ≤ N) : OkN (nkS l) N := by
  refine ⟨⟨by show (0 : Int) ≤ 60; omega, by show (60 : Int) ≤ 65536; omega⟩, by show -(N : Int) ≤ 2 + (l.length : Int) ∧ 2 + (l.length : Int) ≤ N; omega, by rw [nkS_len]; omega, fun s hs => ?_, by show (0 : Int) ≤ 0 ∧ (0 : Int) ≤ N; omega, fun i hi => by simp [nkS] at hi, by simp [nkS]⟩
  rcases List.mem_append.1 hs with hs | hs
  · simp at hs
    rcases hs with rfl | rfl
    · exact ⟨by show 1 ≤ N; omega, by simp [rootSl, rootNd, Nd.few]⟩
    · exact ⟨by show 1 ≤ N; omega, by simp [entrySl, entryNd, Nd.few]⟩
  · obtain ⟨i, hi, rfl⟩ := List.mem_mapIdx.1 hs
    exact ⟨by show 1 ≤ N; omega, by simp [nkSl, nkNd, Nd.few]⟩
end Go.Proofs.Ythkohomogknddaa
