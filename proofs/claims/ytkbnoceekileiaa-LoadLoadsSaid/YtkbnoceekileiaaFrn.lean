/- Pieces in front; slices of slices that can be read; an arena with room. No condition. -/
import Derived.Test.YtkbnoceekileiaaEvm
import Derived.Test.YtkbnoceekileiaaPut
import Derived.Test.YtkbnoceekileiaaRsg
namespace Go.Proofs.Ytkbnoceekileiaa
open Go Go.RowKit
set_option linter.unusedVariables false
set_option linter.unusedSimpArgs false
set_option maxRecDepth 100000
theorem Heap.tailP {w0 w : World} {p : Piece} {l : List Piece} (h : Heap w0 w (p :: l)) : Heap w0 w l := Heap.mid (l := []) (m := [p]) (r := l) h
theorem Heap.swapF {w0 w : World} {B C : List Piece} (h : Heap w0 w (B ++ C)) : Heap w0 w (C ++ B) := Heap.swapE (A := []) (B := B) (C := C) h
theorem Heap.allocF {w0 w : World} {l : List Piece} (h : Heap w0 w l) (t : TypeId) (c : Array Value) : Heap w0 (w.alloc (.cells c t)) (blkP w.heap.size t c :: l) := Heap.swapF (h.alloc t c)
theorem Heap.rowNilF {w0 w : World} {l : List Piece} (h : Heap w0 w l) (t : TypeId) (sz : Nat) : Heap w0 w (rowP t sz (.slice none 0 0) 0 [] :: l) := Heap.swapF (h.rowNilG t sz)
theorem Heap.lastF {w0 w : World} {l : List Piece} {p : Piece} (h : Heap w0 w (l ++ [p])) : Heap w0 w (p :: l) := Heap.swapF h
theorem Heap.backF {w0 w : World} {l : List Piece} {p : Piece} (h : Heap w0 w (p :: l)) : Heap w0 w (l ++ [p]) := Heap.swapF (B := [p]) h
/-- A part of a slice that can be read. -/
theorem RdV.sliced {w : World} {a : Option Addr} {n c sz lo hi : Nat} {us : List Value} (h : RdV w (.slice a n c) n sz us) (hlo : lo ≤ hi) (hhi : hi ≤ n) : RdV w (sliced a lo hi c sz) (hi - lo) sz ((us.take (hi * sz)).drop (lo * sz)) := by
  obtain ⟨h0, hm, h1⟩ := h
  have k1 : lo * sz ≤ hi * sz := Nat.mul_le_mul_right sz hlo
  have k2 : hi * sz ≤ n * sz := Nat.mul_le_mul_right sz hhi
  have k3 : (hi - lo) * sz = hi * sz - lo * sz := Nat.sub_mul hi lo sz
  have kl : ((us.take (hi * sz)).drop (lo * sz)).length = (hi - lo) * sz := by rw [List.length_drop, List.length_take, h0, k3, Nat.min_eq_left k2]
  refine ⟨kl, by omega, ?_⟩
  unfold Go.sliced
  rcases h1 with ⟨h1, h2⟩ | ⟨a', c2, h1, h2, h3⟩
  · simp only [Value.slice.injEq] at h1
    obtain ⟨rfl, _, rfl⟩ := h1
    left
    subst h2
    have e1 : hi = 0 := by omega
    subst e1
    have e2 : lo = 0 := by omega
    subst e2
    exact ⟨rfl, rfl⟩
  · simp only [Value.slice.injEq] at h1
    obtain ⟨rfl, _, rfl⟩ := h1
    right
    by_cases e : c = lo
    · rw [if_pos e]
      refine ⟨a', c - lo, rfl, by omega, fun j hj => ?_⟩
      have : hi - lo = 0 := by omega
      rw [this] at hj
      omega
    · rw [if_neg e]
      refine ⟨_, c - lo, rfl, by omega, fun j hj => ?_⟩
      rw [Go.Deep.add_add, h3 (lo * sz + j) (by omega), List.getElem?_drop, List.getElem?_take, if_pos (by omega)]
theorem intC_drop (l : List Int) (k : Nat) : (intC l).drop (k * 1) = intC (l.drop k) := by simp [intC, List.map_drop]
theorem intC_take (l : List Int) (k : Nat) : (intC l).take (k * 1) = intC (l.take k) := by simp [intC, List.map_take]
theorem pairC_take : ∀ (l : List (Int × Int)) (k : Nat), (pairC l).take (k * 2) = pairC (l.take k)
  | [], k => by simp [pairC]
  | p :: l, 0 => by simp [pairC]
  | p :: l, k + 1 => by
    have h := pairC_take l k
    rw [List.take_succ_cons, show (k + 1) * 2 = k * 2 + 1 + 1 by omega]
    unfold pairC at h ⊢
    rw [List.flatMap_cons, List.flatMap_cons, List.cons_append, List.cons_append, List.take_succ_cons, List.take_succ_cons, List.nil_append, h]
    rfl
theorem pairC_drop : ∀ (l : List (Int × Int)) (k : Nat), (pairC l).drop (k * 2) = pairC (l.drop k)
  | [], k => by simp [pairC]
  | p :: l, 0 => by simp [pairC]
  | p :: l, k + 1 => by
    have h := pairC_drop l k
    rw [List.drop_succ_cons, show (k + 1) * 2 = k * 2 + 1 + 1 by omega]
    unfold pairC at h ⊢
    rw [List.flatMap_cons, List.cons_append, List.cons_append, List.drop_succ_cons, List.drop_succ_cons, List.nil_append, h]
theorem sliced_form {a : Option Addr} {lo hi c sz : Nat} : ∃ a', sliced a lo hi c sz = .slice a' (hi - lo) (c - lo) := ⟨_, rfl⟩
/-- A world with more nodes. -/
def ldW (s : Wd) (nds : List Nd) : Wd := { s with ar := addAr s.ar nds }
theorem ldW_nil (s : Wd) : ldW s [] = s := by unfold ldW; rw [addAr_nil]
/-- So many nodes may be made. -/
structure Room (ar : Ar) (T : Nat) : Prop where
  ok : OkN ar 100
  free : ar.free = []
  room : ar.used + (T : Int) ≤ ar.most
  few : ar.slots.length + T ≤ 60000
theorem Room.more {ar : Ar} {T : Nat} (h : Room ar T) {nds : List Nd} (hl : nds.length ≤ T) : MoreAr (addAr ar nds) := by
  have h1 := h.ok.used
  have h2 := h.ok.most
  have h3 := h.few
  have h4 := h.room
  refine ⟨⟨h.ok.most, ⟨by show -1000000 ≤ ar.used + (nds.length : Int); omega, by show ar.used + (nds.length : Int) ≤ 1000000; omega⟩, by simp [addAr]; omega, fun s hs => ?_, ?_, fun i hi => ?_, by show ar.free.length ≤ _; rw [h.free]; simp⟩, by simp [addAr]; omega, fun s hs => ?_, by show ar.free.length ≤ _; rw [h.free]; simp⟩
  · simp only [addAr, List.mem_append, List.mem_map] at hs
    rcases hs with hs | ⟨x, _, rfl⟩
    · have := (h.ok.cnt s hs).1; omega
    · simp [newSl]
  · have := h.ok.faults
    exact ⟨this.1, by show ar.faults ≤ _; omega⟩
  · have : i ∈ ar.free := hi
    rw [h.free] at this
    simp at this
  · simp only [addAr, List.mem_append, List.mem_map] at hs
    rcases hs with hs | ⟨x, _, rfl⟩
    · have := (h.ok.cnt s hs).1; omega
    · simp [newSl]
theorem Room.alloc {ar : Ar} {T : Nat} (h : Room ar T) {nds : List Nd} (nd : Nd) (hl : nds.length < T) : allocAr nd (addAr ar nds) = ((refOf ((ar.slots.length + nds.length : Nat) : Int) 1, true), addAr ar (nds ++ [nd])) :=
  alloc_add nd h.free (by have := h.room; omega)
/-- So many entries are behind; each part has one or more. -/
def sumP (n b i : Nat) : Nat := ((partsN n b).take i).sum
theorem partsN_get {n b i : Nat} (h : i < partK n b) : (partsN n b)[i]? = some (partAt n b i) := by simp [partsN, h]
theorem sumP_next {n b i : Nat} (h : i < partK n b) : sumP n b (i + 1) = sumP n b i + partAt n b i := by
  unfold sumP
  rw [partsN_next h, List.sum_append]
  simp
theorem sumP_all (n b : Nat) : sumP n b (partK n b) = n := by
  unfold sumP
  rw [List.take_of_length_le (by rw [partsN_len]; exact Nat.le_refl _), partsN_sum]
theorem sum_take_le : ∀ (l : List Nat) (i : Nat), (l.take i).sum ≤ l.sum
  | [], i => by simp
  | a :: l, 0 => by simp
  | a :: l, i + 1 => by
    rw [List.take_succ_cons, List.sum_cons, List.sum_cons]
    exact Nat.add_le_add_left (sum_take_le l i) a
theorem sumP_le (n b i : Nat) : sumP n b i ≤ n := by
  have h := sum_take_le (partsN n b) i
  rwa [partsN_sum] at h
theorem partAt_pos {n b i : Nat} (hn : 1 ≤ n) (hb : 1 ≤ b) : 1 ≤ partAt n b i := by
  have h1 : partK n b ≤ n := partK_le hb hn
  have h2 : 1 ≤ n / partK n b := Nat.div_pos h1 (partK_pos n b)
  unfold partAt
  omega
theorem upNds_snoc : ∀ (ps : List Nat) (k : Nat) (row fs : List Int), upNds (ps ++ [k]) row fs = upNds ps row fs ++ [⟨true, false, [], ((fs.drop ps.sum).take k).drop 1, (row.drop ps.sum).take k⟩]
  | [], k, row, fs => by simp [upNds]
  | p :: ps, k, row, fs => by
    rw [List.cons_append, upNds, upNds, upNds_snoc ps, List.sum_cons, List.drop_drop, List.drop_drop, List.cons_append]
theorem upKeys_snoc : ∀ (ps : List Nat) (k : Nat) (fs : List Int), upKeys (ps ++ [k]) fs = upKeys ps fs ++ [(fs.drop ps.sum).getD 0 0]
  | [], k, fs => by simp [upKeys]
  | p :: ps, k, fs => by
    rw [List.cons_append, upKeys, upKeys, upKeys_snoc ps, List.sum_cons, List.drop_drop, List.cons_append]
theorem leafNds_snoc : ∀ (ps : List Nat) (k : Nat) (l : List (Int × Int)), leafNds (ps ++ [k]) l = leafNds ps l ++ [⟨false, false, (l.drop ps.sum).take k, [], []⟩]
  | [], k, l => by simp [leafNds]
  | p :: ps, k, l => by
    rw [List.cons_append, leafNds, leafNds, leafNds_snoc ps, List.sum_cons, List.drop_drop, List.cons_append]
theorem leafKeys_snoc : ∀ (ps : List Nat) (k : Nat) (l : List (Int × Int)), leafKeys (ps ++ [k]) l = leafKeys ps l ++ [((l.drop ps.sum).getD 0 (0, 0)).1]
  | [], k, l => by simp [leafKeys]
  | p :: ps, k, l => by
    rw [List.cons_append, leafKeys, leafKeys, leafKeys_snoc ps, List.sum_cons, List.drop_drop, List.cons_append]
theorem upKeys_len : ∀ (ps : List Nat) (fs : List Int), (upKeys ps fs).length = ps.length
  | [], _ => rfl
  | k :: t, fs => by simp [upKeys, upKeys_len t]
theorem leafKeys_len : ∀ (ps : List Nat) (l : List (Int × Int)), (leafKeys ps l).length = ps.length
  | [], _ => rfl
  | k :: t, l => by simp [leafKeys, leafKeys_len t]
end Go.Proofs.Ytkbnoceekileiaa
