/- HelpAlone: what a record comes to, done by one alone: the plain law. No condition but the bounds of size. -/
import Derived.Test.YthkohomogknddaaHre
import Derived.Test.YthkohomogknddaaHst
import Derived.Test.YthkohomogknddaaWHn
namespace Go.Proofs.Ythkohomogknddaa
open Go Go.RowKit
set_option linter.unusedVariables false
set_option linter.unusedSimpArgs false
set_option maxRecDepth 100000
def alR (on : List Nat) (fs : List Int) (keep way old : Int) : Rc := ⟨on.map told, fs, keep, way, old, 99⟩
def alW (c : Rc) (ep : Ep) (L : List Nk) (st : Int) (al : Bool) : Wd := ⟨nkS L, ⟨[⟨c.nodes, c.infos, c.keep, c.way, c.old, c.new, st, al⟩], 40⟩, ep⟩
def nk0 : Nk := ⟨0, false, 0, 0⟩
section
variable {c : Rc} {ep : Ep} {L : List Nk} {st : Int} {al : Bool}
theorem al_swap {i : Nat} {y : Nk} (h : L[i]? = some y) (hl : L.length ≤ 1000) (f n : Int) : aSwapInfo (told i) f n (alW c ep L st al) = if y.inf = f then (1, alW c ep (L.set i { y with inf := n }) st al) else (0, alW c ep L st al) := by
  unfold aSwapInfo alW
  dsimp only
  rw [nk_swapInfo h hl]
  split <;> rfl
theorem al_info {i : Nat} {y : Nk} (h : L[i]? = some y) (hl : L.length ≤ 1000) : aInfo (told i) (alW c ep L st al) = (y.inf, alW c ep L st al) := by
  unfold aInfo alW
  dsimp only
  rw [nk_info h hl]
theorem al_set (v : Int) : aSet 1 v (alW c ep L st al) = (0, alW c ep L v al) := rfl
theorem al_setAll : aSetAll 1 (alW c ep L st al) = (0, alW c ep L st true) := rfl
theorem al_allRt : allRt 1 (alW c ep L st al).rt = al := rfl
theorem al_mark {i : Nat} {y : Nk} (h : L[i]? = some y) (hl : L.length ≤ 1000) : aSetMark (told i) (alW c ep L st al) = (0, alW c ep (L.set i { y with mrk := true }) st al) := by
  unfold aSetMark alW
  dsimp only
  rw [nk_setMark h hl]
end
def hI (al : Bool) : List (Nat × Int) → List Nk → Nat × Bool × List Nk
  | [], L => (0, false, L)
  | (i, f) :: l, L =>
    if (L.getD i nk0).inf = f then ((hI al l (L.set i { L.getD i nk0 with inf := 1 })).1 + 1, (hI al l (L.set i { L.getD i nk0 with inf := 1 })).2)
    else if (L.getD i nk0).inf = 1 then ((hI al l L).1 + 2, (hI al l L).2)
    else (if al = true then 3 else 4, true, L)
def hM : List Nat → List Nk → List Nk
  | [], L => L
  | i :: l, L => hM l (L.set i { L.getD i nk0 with mrk := true })
def hF (way old : Int) (i : Nat) (L : List Nk) : List Nk :=
  if way = 0 ∧ (L.getD i nk0).a = old then L.set i { L.getD i nk0 with a := 99 } else if way = 1 ∧ (L.getD i nk0).b = old then L.set i { L.getD i nk0 with b := 99 } else L
theorem getD_some {L : List Nk} {i : Nat} (h : i < L.length) : L[i]? = some (L.getD i nk0) := by simp [h]
theorem hI_len {al : Bool} : ∀ (l : List (Nat × Int)) (L : List Nk), (hI al l L).2.2.length = L.length
  | [], L => rfl
  | (i, f) :: l, L => by
    unfold hI
    split
    · exact (hI_len l _).trans (by simp)
    · split
      · exact hI_len l L
      · rfl
theorem hM_len : ∀ (l : List Nat) (L : List Nk), (hM l L).length = L.length
  | [], L => rfl
  | i :: l, L => by unfold hM; rw [hM_len l]; simp
theorem solI_al {c : Rc} {ep : Ep} {al : Bool} : ∀ (l : List (Nat × Int)) (L : List Nk), (∀ q ∈ l, q.1 < L.length) → L.length ≤ 1000 →
    ∃ log : List Int, log.length = (hI al l L).1 ∧ solI 1 (l.map fun q => (told q.1, q.2)) (alW c ep L 1 al) = (log, (if (hI al l L).2.1 = true then some al else none), alW c ep (hI al l L).2.2 (if (hI al l L).2.1 = true ∧ al = false then 0 else 1) al)
  | [], L, _, _ => ⟨[], rfl, rfl⟩
  | (i, f) :: l, L, hq, hl => by
    have hi : i < L.length := hq (i, f) (by simp)
    have hy := getD_some hi
    have hs := al_swap (c := c) (ep := ep) (st := 1) (al := al) hy hl f 1
    unfold hI
    simp only [List.map_cons]
    unfold solI
    by_cases e1 : (L.getD i nk0).inf = f
    · rw [if_pos e1] at hs ⊢
      rw [hs]
      obtain ⟨log, h1, h2⟩ := solI_al (c := c) (ep := ep) (al := al) l (L.set i { L.getD i nk0 with inf := 1 }) (fun q h => by rw [List.length_set]; exact hq q (by simp [h])) (by rw [List.length_set]; exact hl)
      rw [if_pos rfl]
      dsimp only
      rw [h2]
      exact ⟨1 :: log, by simp [h1], rfl⟩
    · rw [if_neg e1] at hs ⊢
      rw [hs]
      rw [if_neg (show ¬ (0 : Int) = 1 by decide)]
      dsimp only
      rw [al_info hy hl]
      dsimp only
      by_cases e2 : (L.getD i nk0).inf = 1
      · rw [if_pos e2, if_pos e2]
        obtain ⟨log, h1, h2⟩ := solI_al (c := c) (ep := ep) (al := al) l L (fun q h => hq q (by simp [h])) hl
        rw [h2]
        exact ⟨0 :: (L.getD i nk0).inf :: log, by simp [h1], rfl⟩
      · rw [if_neg e2, if_neg e2, al_allRt]
        cases al with
        | true => exact ⟨_, rfl, rfl⟩
        | false => exact ⟨[0, (L.getD i nk0).inf, 0, 0], rfl, rfl⟩
theorem solM_al {c : Rc} {ep : Ep} {st : Int} {al : Bool} : ∀ (l : List Nat) (L : List Nk), (∀ i ∈ l, i < L.length) → L.length ≤ 1000 →
    ∃ log : List Int, log.length = l.length ∧ solM (l.map told) (alW c ep L st al) = (log, alW c ep (hM l L) st al)
  | [], L, _, _ => ⟨[], rfl, rfl⟩
  | i :: l, L, hq, hl => by
    have hi : i < L.length := hq i (by simp)
    have hm := al_mark (c := c) (ep := ep) (st := st) (al := al) (getD_some hi) hl
    obtain ⟨log, h1, h2⟩ := solM_al (c := c) (ep := ep) (st := st) (al := al) l (L.set i { L.getD i nk0 with mrk := true }) (fun j h => by rw [List.length_set]; exact hq j (by simp [h])) (by rw [List.length_set]; exact hl)
    simp only [List.map_cons]
    unfold solM hM
    rw [hm]
    dsimp only
    rw [h2]
    exact ⟨0 :: log, by simp [h1], rfl⟩
/-- What comes of it: the touches, the answer, the state, All, the nodes. -/
structure AlRes where
  t : Nat
  b : Bool
  st : Int
  al : Bool
  L : List Nk
def hEndL (on : List Nat) (keep : Nat) (way old : Int) (L : List Nk) : List Nk := match on with
  | [] => L
  | i :: l => hF way old i (hM ((i :: l).drop keep) L)
def hRes (al : Bool) (on : List Nat) (fs : List Int) (keep : Nat) (way old : Int) (L : List Nk) : AlRes :=
  if (hI al (on.zip fs) L).2.1 = true then ⟨(hI al (on.zip fs) L).1, al, (if al = true then 1 else 0), al, (hI al (on.zip fs) L).2.2⟩
  else ⟨(hI al (on.zip fs) L).1 + 2 + (on.length - keep) + (if on = [] then 0 else 1), true, 2, true, hEndL on keep way old (hI al (on.zip fs) L).2.2⟩
theorem zip_told : ∀ (on : List Nat) (fs : List Int), (on.map told).zip fs = (on.zip fs).map fun q => (told q.1, q.2)
  | [], _ => rfl
  | _ :: _, [] => rfl
  | i :: on, f :: fs => by simp [zip_told on fs]
theorem al_way {c : Rc} {ep : Ep} {L : List Nk} {st : Int} {al : Bool} {i : Nat} (h : i < L.length) (hl : L.length ≤ 1000) (way old : Int) : ∃ a : Int, aSwapWay (told i) way old 99 (alW c ep L st al) = (a, alW c ep (hF way old i L) st al) := by
  unfold aSwapWay alW hF
  dsimp only
  rw [nk_swapWay (getD_some h) hl]
  split
  · exact ⟨_, rfl⟩
  · split
    · exact ⟨_, rfl⟩
    · exact ⟨_, rfl⟩
theorem solH_al {ep : Ep} {al : Bool} {on : List Nat} {fs : List Int} {keep : Nat} {way old : Int} {L : List Nk} (hq : ∀ i ∈ on, i < L.length) (hl : L.length ≤ 1000) (hf : fs.length = on.length) :
    ∃ log : List Int, log.length = (hRes al on fs keep way old L).t ∧ solH 1 (alR on fs keep way old) (alW (alR on fs keep way old) ep L 1 al) = (log, (hRes al on fs keep way old L).b, alW (alR on fs keep way old) ep (hRes al on fs keep way old L).L (hRes al on fs keep way old L).st (hRes al on fs keep way old L).al) := by
  obtain ⟨log, h1, h2⟩ := solI_al (c := alR on fs keep way old) (ep := ep) (al := al) (on.zip fs) L (fun q h => hq _ (List.of_mem_zip h).1) hl
  unfold solH
  rw [show (alR on fs keep way old).nodes.zip (alR on fs keep way old).infos = (on.zip fs).map fun q => (told q.1, q.2) from zip_told on fs, h2]
  unfold hRes
  have hlen := hI_len (al := al) (on.zip fs) L
  rcases hr : hI al (on.zip fs) L with ⟨t, st, L1⟩
  rw [hr] at h1 hlen
  dsimp only at h1 hlen ⊢
  cases st with
  | true =>
    rw [if_pos rfl, if_pos rfl]
    refine ⟨log, h1, ?_⟩
    cases al <;> rfl
  | false =>
    simp only [Bool.false_eq_true, false_and, if_false]
    have ek : keepL (alR on fs keep way old) = (on.drop keep).map told := by
      unfold keepL alR
      dsimp only
      rw [List.length_map, List.map_drop]
      rcases (by omega : keep ≤ on.length ∨ on.length < keep) with h | h
      · rw [show (min (keep : Int) (on.length : Int)).toNat = keep by omega]
      · rw [show (min (keep : Int) (on.length : Int)).toNat = on.length by omega, List.drop_eq_nil_of_le (by simp), List.drop_eq_nil_of_le (by simp; omega)]
    obtain ⟨m, m1, m2⟩ := solM_al (c := alR on fs keep way old) (ep := ep) (st := 1) (al := true) (on.drop keep) L1 (fun i h => by rw [hlen]; exact hq i (List.mem_of_mem_drop h)) (by rw [hlen]; exact hl)
    unfold solE
    rw [al_setAll]
    dsimp only
    rw [ek, m2]
    dsimp only
    cases on with
    | nil =>
      rw [show hM (([] : List Nat).drop keep) L1 = L1 from by rw [List.drop_nil]; rfl]
      refine ⟨log ++ (0 :: (m ++ ([] ++ [0]))), ?_, rfl⟩
      simp [h1, m1]
    | cons i on =>
      obtain ⟨a, ha⟩ := al_way (c := alR (i :: on) fs keep way old) (ep := ep) (st := 1) (al := true) (i := i) (L := hM ((i :: on).drop keep) L1) (by rw [hM_len, hlen]; exact hq i (by simp)) (by rw [hM_len, hlen]; exact hl) way old
      have hF' : solF (alR (i :: on) fs keep way old) (alW (alR (i :: on) fs keep way old) ep (hM ((i :: on).drop keep) L1) 1 true) = ([a], alW (alR (i :: on) fs keep way old) ep (hF way old i (hM ((i :: on).drop keep) L1)) 1 true) := by
        show ([(aSwapWay (told i) way old 99 _).1], (aSwapWay (told i) way old 99 _).2) = _
        rw [ha]
      rw [hF']
      refine ⟨log ++ (0 :: (m ++ ([a] ++ [0]))), ?_, rfl⟩
      simp [h1, m1]
      omega
theorem hI_keeps {al : Bool} : ∀ (l : List (Nat × Int)) (L : List Nk) (i : Nat), ((hI al l L).2.2.getD i nk0).a = (L.getD i nk0).a ∧ ((hI al l L).2.2.getD i nk0).b = (L.getD i nk0).b ∧ ((hI al l L).2.2.getD i nk0).mrk = (L.getD i nk0).mrk
  | [], L, i => ⟨rfl, rfl, rfl⟩
  | (j, f) :: l, L, i => by
    have key : ((L.set j { L.getD j nk0 with inf := 1 }).getD i nk0).a = (L.getD i nk0).a ∧ ((L.set j { L.getD j nk0 with inf := 1 }).getD i nk0).b = (L.getD i nk0).b ∧ ((L.set j { L.getD j nk0 with inf := 1 }).getD i nk0).mrk = (L.getD i nk0).mrk := by
      simp only [List.getD_eq_getElem?_getD, List.getElem?_set]
      by_cases h : j = i
      · subst h
        by_cases h2 : j < L.length
        · simp [h2]
        · simp [h2]
      · simp [h]
    unfold hI
    split
    · obtain ⟨h1, h2, h3⟩ := hI_keeps (al := al) l (L.set j { L.getD j nk0 with inf := 1 }) i
      exact ⟨h1.trans key.1, h2.trans key.2.1, h3.trans key.2.2⟩
    · split
      · exact hI_keeps l L i
      · exact ⟨rfl, rfl, rfl⟩
theorem hM_keeps : ∀ (l : List Nat) (L : List Nk) (i : Nat), ((hM l L).getD i nk0).a = (L.getD i nk0).a ∧ ((hM l L).getD i nk0).b = (L.getD i nk0).b ∧ ((hM l L).getD i nk0).inf = (L.getD i nk0).inf
  | [], L, i => ⟨rfl, rfl, rfl⟩
  | j :: l, L, i => by
    have key : ((L.set j { L.getD j nk0 with mrk := true }).getD i nk0).a = (L.getD i nk0).a ∧ ((L.set j { L.getD j nk0 with mrk := true }).getD i nk0).b = (L.getD i nk0).b ∧ ((L.set j { L.getD j nk0 with mrk := true }).getD i nk0).inf = (L.getD i nk0).inf := by
      simp only [List.getD_eq_getElem?_getD, List.getElem?_set]
      by_cases h : j = i
      · subst h
        by_cases h2 : j < L.length
        · simp [h2]
        · simp [h2]
      · simp [h]
    unfold hM
    obtain ⟨h1, h2, h3⟩ := hM_keeps l (L.set j { L.getD j nk0 with mrk := true }) i
    exact ⟨h1.trans key.1, h2.trans key.2.1, h3.trans key.2.2⟩
theorem hF_keeps {way old : Int} {j : Nat} {L : List Nk} (i : Nat) : ((hF way old j L).getD i nk0).inf = (L.getD i nk0).inf ∧ ((hF way old j L).getD i nk0).mrk = (L.getD i nk0).mrk := by
  unfold hF
  split
  · simp only [List.getD_eq_getElem?_getD, List.getElem?_set]
    by_cases h : j = i
    · subst h
      by_cases h2 : j < L.length
      · simp [h2]
      · simp [h2]
    · simp [h]
  · split
    · simp only [List.getD_eq_getElem?_getD, List.getElem?_set]
      by_cases h : j = i
      · subst h
        by_cases h2 : j < L.length
        · simp [h2]
        · simp [h2]
      · simp [h]
    · exact ⟨rfl, rfl⟩
theorem hF_len {way old : Int} {j : Nat} {L : List Nk} : (hF way old j L).length = L.length := by
  unfold hF
  split
  · simp
  · split <;> simp
def nowA (L : List Nk) : Array Value := (L.map fun y => Value.int .i64 y.inf).toArray
def mrkA (L : List Nk) : Array Value := (L.map fun y => Value.bool y.mrk).toArray
theorem nowA_congr {L M : List Nk} (hl : L.length = M.length) (h : ∀ i, (L.getD i nk0).inf = (M.getD i nk0).inf) : nowA L = nowA M := by
  unfold nowA
  congr 1
  apply List.ext_getElem (by simp [hl])
  intro i h1 h2
  have := h i
  simp only [List.length_map] at h1 h2
  simp only [List.getD_eq_getElem?_getD, List.getElem?_eq_getElem h1, List.getElem?_eq_getElem h2, Option.getD_some] at this
  simp [this]
theorem mrkA_congr {L M : List Nk} (hl : L.length = M.length) (h : ∀ i, (L.getD i nk0).mrk = (M.getD i nk0).mrk) : mrkA L = mrkA M := by
  unfold mrkA
  congr 1
  apply List.ext_getElem (by simp [hl])
  intro i h1 h2
  have := h i
  simp only [List.length_map] at h1 h2
  simp only [List.getD_eq_getElem?_getD, List.getElem?_eq_getElem h1, List.getElem?_eq_getElem h2, Option.getD_some] at this
  simp [this]
end Go.Proofs.Ythkohomogknddaa
