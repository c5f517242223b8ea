/- Nodes made and dropped by a thread alone: what the arena holds. No condition. -/
import Derived.Test.YthkohomogknddaaMak
namespace Go.Proofs.Ythkohomogknddaa
open Go Go.RowKit
set_option linter.unusedVariables false
set_option linter.unusedSimpArgs false
set_option maxRecDepth 100000
theorem mkNd_few (i : Nat) : (mkNd i).few := ⟨by simp [mkNd], by simp [mkNd], by simp [mkNd]⟩
def mkSl (u : Bool) (i : Nat) : Sl := ⟨mkNd i, [], 0, false, 1, u⟩
/-- k nodes behind the root and the entry, of which the first j were freed. -/
def mkS (most : Int) (k j : Nat) : Ar := ⟨[rootSl, entrySl] ++ (List.range k).map (fun i => mkSl (decide (j ≤ i)) i), (List.range j).map (· + 2), most, 2 + ((k - j : Nat) : Int), 0⟩
theorem mkS_len {most : Int} {k j : Nat} : (mkS most k j).slots.length = 2 + k := by simp [mkS]; omega
theorem mkS_get {most : Int} {k j i : Nat} (hi : i < k) : (mkS most k j).at (2 + i) = mkSl (decide (j ≤ i)) i := by
  unfold Ar.at mkS
  simp only [List.getD_eq_getElem?_getD]
  rw [List.getElem?_append_right (by simp)]
  simp [hi]
theorem mkS_at {most : Int} {k j i : Nat} (hi : i < k) (hk : k ≤ 1000) : arAt (mkS most k j) (told i) = if j ≤ i then some (2 + i) else none := by
  have hg := mkS_get (most := most) (j := j) hi
  unfold Ar.at at hg
  unfold arAt
  simp only [told_at i (by omega), Int.toNat_natCast, hg]
  by_cases hj : j ≤ i
  · rw [if_pos hj, if_pos]
    exact ⟨by omega, by rw [mkS_len]; omega, by simp [mkSl, hj], rfl⟩
  · rw [if_neg hj, if_neg]
    rintro ⟨_, _, h3, _⟩
    simp [mkSl, hj] at h3
theorem mkS_free {most : Int} {k j : Nat} (h : j < k) (hk : k ≤ 1000) : freeAr (told j) (mkS most k j) = (true, mkS most k (j + 1)) := by
  unfold freeAr
  rw [mkS_at h hk, if_pos (Nat.le_refl _)]
  have hg : (mkS most k j).at (2 + j) = mkSl true j := by rw [mkS_get h]; simp
  simp only [hg]
  unfold mkS Ar.put
  simp only [Prod.mk.injEq, Ar.mk.injEq, true_and]
  refine ⟨?_, ?_, ?_⟩
  · rw [List.set_append_right _ _ (by simp)]
    congr 1
    simp only [List.length_cons, List.length_nil]
    apply List.ext_getElem?
    intro n
    rw [List.getElem?_set]
    simp only [List.length_map, List.length_range, List.getElem?_map]
    by_cases hn : n = j
    · subst hn
      simp [h, mkSl]
    · rw [if_neg (by omega)]
      by_cases hnk : n < k
      · rw [List.getElem?_range hnk]
        simp only [Option.map_some, Option.some.injEq]
        have : decide (j ≤ n) = decide (j + 1 ≤ n) := by rw [Bool.eq_iff_iff]; simp; omega
        rw [this]
      · rw [List.getElem?_eq_none (by simp; omega)]; rfl
  · rw [List.range_succ, List.map_append]; simp; omega
  · refine ⟨?_, trivial⟩; show 2 + ((k - j : Nat) : Int) - 1 = 2 + ((k - (j + 1) : Nat) : Int); omega
theorem mkS_alloc {most : Int} {k : Nat} (h : 2 + (k : Int) < most) : allocAr (mkNd k) (mkS most k 0) = ((told k, true), mkS most (k + 1) 0) := by
  rw [alloc_next (mkNd k) (by unfold mkS; simp; omega) rfl, mkS_len]
  unfold told mkS
  simp only [Prod.mk.injEq, Ar.mk.injEq, true_and, and_true]
  refine ⟨?_, by simp; omega⟩
  rw [List.range_succ, List.map_append]
  simp [newSl, mkSl, mkNd]
theorem mkS_full {most : Int} {k : Nat} (nd : Nd) (h : most ≤ 2 + (k : Int)) : allocAr nd (mkS most k 0) = ((0, false), mkS most k 0) := alloc_full nd (by simpa [mkS] using h)
theorem mkS_look {most : Int} {k i : Nat} (h : i < k) (hk : k ≤ 1000) : lookAr (told i) (mkS most k 0) = (mkNd i, mkS most k 0) := by
  unfold lookAr
  rw [mkS_at h hk, if_pos (Nat.zero_le _)]
  simp only [mkS_get h]; rfl
theorem mkS_ok {most : Int} {k j N : Nat} (hj : j ≤ k) (hk : k ≤ 30) (hN : 60 ≤ N) (hm : 0 ≤ most ∧ most ≤ 65536) : OkN (mkS most k j) N := by
  refine ⟨hm, by show -(N : Int) ≤ 2 + ((k - j : Nat) : Int) ∧ 2 + ((k - j : Nat) : Int) ≤ N; omega, by rw [mkS_len]; omega, fun s hs => ?_, by show (0 : Int) ≤ 0 ∧ (0 : Int) ≤ N; omega, fun i hi => ?_, by simp [mkS]; omega⟩
  · simp only [mkS, List.mem_append, List.mem_cons, List.not_mem_nil, or_false, List.mem_map] at hs
    rcases hs with (rfl | rfl) | ⟨i, _, rfl⟩
    · exact ⟨by show 1 ≤ N; omega, by simp [rootSl, rootNd, Nd.few]⟩
    · exact ⟨by show 1 ≤ N; omega, by simp [entrySl, entryNd, Nd.few]⟩
    · exact ⟨by show 1 ≤ N; omega, mkNd_few i⟩
  · rw [mkS_len]
    simp [mkS] at hi
    omega
def mkW (room k j : Nat) : Wd := ⟨mkS (2 + (room : Int)) k j, ⟨[], 20⟩, ⟨0, [-1], [[]]⟩⟩
theorem mkW_ok {room k j N : Nat} (hj : j ≤ k) (hk : k ≤ 30) (hN : 60 ≤ N) (hr : room ≤ 30) : WdOk N (mkW room k j) := by
  refine ⟨mkS_ok hj hk hN ⟨by omega, by omega⟩, ⟨⟨by show (0 : Int) ≤ 0; omega, by show (0 : Int) ≤ N; omega⟩, fun l hl p hp => ?_, ?_, rfl⟩, fun e he => by simp [mkW] at he⟩
  · simp [mkW] at hl
    rw [hl] at hp
    simp at hp
  · show waits [[]] ≤ N
    simp [waits]
def got (room i : Nat) : Int := if i < room then told i else 0
theorem runs_makes (room : Nat) (hr : room ≤ 1000) : ∀ (F i : Nat) (acc : List Int), ∃ l, Runs ev0 (makesP F i acc) (mkW room (min i room) 0) l (acc ++ (List.range' i F).map (got room)) ev0 (mkW room (min (i + F) room) 0) ∧ l.length = F
  | 0, i, acc => ⟨[], by simpa [makesP] using Runs.ret, rfl⟩
  | F + 1, i, acc => by
    obtain ⟨l, h1, h2⟩ := runs_makes room hr F (i + 1) (acc ++ [got room i])
    refine ⟨got room i :: l, ?_, by simp [h2]⟩
    unfold makesP
    refine Runs.ask1 (tame_alloc (mkNd i) (mkNd_few i)) (s1 := mkW room (min (i + 1) room) 0) (n := got room i) ?_ ?_
    · unfold aAlloc got
      by_cases hi : i < room
      · rw [if_pos hi, show min i room = i from by omega, show min (i + 1) room = i + 1 from by omega]
        have e : allocAr (mkNd i) (mkW room i 0).ar = ((told i, true), mkS (2 + (room : Int)) (i + 1) 0) := mkS_alloc (by omega)
        rw [e]; rfl
      · rw [if_neg hi, show min i room = room from by omega, show min (i + 1) room = room from by omega]
        have e : allocAr (mkNd i) (mkW room room 0).ar = ((0, false), mkS (2 + (room : Int)) room 0) := mkS_full _ (by omega)
        rw [e]; rfl
    · rw [List.range'_succ, List.map_cons, show i + (F + 1) = i + 1 + F from by omega]
      rw [List.append_assoc] at h1
      exact h1
theorem runs_drops (room k n : Nat) (hk : k = min n room) (hr : room ≤ 1000) : ∀ (F i : Nat), i + F = n → ∃ l, Runs ev0 (dropP ((List.range' i F).map (got room))) (mkW room k (min i k)) l () ev0 (mkW room k k) ∧ l.length = k - min i k
  | 0, i, h => ⟨[], by rw [show min i k = k from by omega]; exact Runs.ret, by simp; omega⟩
  | F + 1, i, h => by
    obtain ⟨l, h1, h2⟩ := runs_drops room k n hk hr F (i + 1) (by omega)
    rw [List.range'_succ, List.map_cons]
    unfold dropP got
    by_cases hi : i < room
    · refine ⟨1 :: l, ?_, by simp [h2]; omega⟩
      rw [if_pos hi, if_neg (told_ne i (by omega)).1]
      refine Runs.ask1 (tame_free (told i)) (s1 := mkW room k (min (i + 1) k)) (n := 1) ?_ h1
      rw [show min i k = i from by omega, show min (i + 1) k = i + 1 from by omega]
      unfold aFree
      have e : freeAr (told i) (mkW room k i).ar = (true, mkS (2 + (room : Int)) k (i + 1)) := mkS_free (by omega) (by omega)
      rw [e]; rfl
    · refine ⟨l, ?_, by rw [h2]; omega⟩
      rw [if_neg hi, if_pos rfl]
      rw [show min i k = k from by omega]
      rw [show min (i + 1) k = k from by omega] at h1
      exact h1
/-- The row of what was told. -/
def gotV (room k : Nat) : List Value := intC ((List.range k).map (got room))
theorem gotV_snoc (room k : Nat) : gotV room k ++ [.int .i64 (got room k)] = gotV room (k + 1) := by
  unfold gotV intC
  rw [List.range_succ, List.map_append, List.map_append]; rfl
theorem gotV_get {room k i : Nat} (h : i < k) : (gotV room k)[i]? = some (.int .i64 (got room i)) := by
  unfold gotV intC
  rw [List.getElem?_map, List.getElem?_map, List.getElem?_range h]; rfl
end Go.Proofs.Ythkohomogknddaa
