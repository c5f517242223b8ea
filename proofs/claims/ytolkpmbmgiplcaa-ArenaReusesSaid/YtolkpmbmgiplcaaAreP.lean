/- The arena's bounds stay, call by call; calls with nodes of no entries. No condition. -/
import Derived.Test.YtolkpmbmgiplcaaAreH
namespace Go.Proofs.Ytolkpmbmgiplcaa
open Go Go.RowKit
set_option linter.unusedVariables false
set_option linter.unusedSimpArgs false
/-- All numbers of an arena are N at most. -/
structure OkN (ar : Ar) (N : Nat) : Prop where
  most : 0 ≤ ar.most ∧ ar.most ≤ 65536
  used : -(N : Int) ≤ ar.used ∧ ar.used ≤ N
  few : ar.slots.length ≤ N
  cnt : ∀ s ∈ ar.slots, s.count ≤ N ∧ s.nd.few
  faults : 0 ≤ ar.faults ∧ ar.faults ≤ N
  free : ∀ i ∈ ar.free, i < ar.slots.length
  frees : ar.free.length ≤ N
theorem OkN.ok {ar : Ar} {N : Nat} (h : OkN ar N) (hN : N ≤ 60000) : OkAr ar :=
  ⟨h.most, ⟨by have := h.used.1; omega, by have := h.used.2; omega⟩, by have := h.few; omega, fun s hs => by have := (h.cnt s hs).1; omega, ⟨h.faults.1, by have := h.faults.2; omega⟩, h.free, by have := h.frees; omega⟩
theorem OkN.more {ar : Ar} {N : Nat} (h : OkN ar N) (hN : N ≤ 60000) : MoreAr ar :=
  ⟨h.ok hN, by have := h.few; omega, fun s hs => by have := (h.cnt s hs).1; omega, by have := h.frees; omega⟩
theorem OkN.up {ar : Ar} {N M : Nat} (h : OkN ar N) (hN : N ≤ M) : OkN ar M :=
  ⟨h.most, ⟨by have := h.used.1; omega, by have := h.used.2; omega⟩, by have := h.few; omega, fun s hs => ⟨by have := (h.cnt s hs).1; omega, (h.cnt s hs).2⟩, ⟨h.faults.1, by have := h.faults.2; omega⟩, h.free, by have := h.frees; omega⟩
theorem OkN.nds {ar : Ar} {N : Nat} (h : OkN ar N) : ∀ s ∈ ar.slots, s.nd.few := fun s hs => (h.cnt s hs).2
theorem noNd_few : noNd.few := ⟨by simp [noNd], by simp [noNd], by simp [noNd]⟩
theorem OkN.new (n : Int) : OkN (newAr n) 0 := by
  refine ⟨?_, by simp [newAr], by simp [newAr], fun s hs => by simp [newAr] at hs, by simp [newAr], fun i hi => by simp [newAr] at hi, by simp [newAr]⟩
  simp only [newAr, limAr]; omega
theorem OkN.fault {ar : Ar} {N : Nat} (h : OkN ar N) : OkN ar.fault (N + 1) := by
  have u := h.up (Nat.le_succ N)
  refine ⟨u.most, u.used, u.few, u.cnt, ?_, u.free, u.frees⟩
  have := h.faults
  simp only [Ar.fault]; omega
theorem OkN.put {ar : Ar} {N : Nat} (h : OkN ar N) (p : Nat) (s : Sl) (hs : s.count ≤ N ∧ s.nd.few) : OkN (ar.put p s) N := by
  refine ⟨h.most, h.used, by simp [Ar.put]; exact h.few, fun x hx => ?_, h.faults, fun i hi => by simp [Ar.put]; exact h.free i hi, h.frees⟩
  rcases List.mem_or_eq_of_mem_set hx with hx | rfl
  · exact h.cnt x hx
  · exact hs
theorem OkN.at {ar : Ar} {N : Nat} (h : OkN ar N) {p : Nat} (hp : p < ar.slots.length) : (ar.at p).count ≤ N ∧ (ar.at p).nd.few := by
  have : ar.at p ∈ ar.slots := by simp [Ar.at, List.getD, List.getElem?_eq_getElem hp]
  exact h.cnt _ this
theorem OkN.prep {ar : Ar} {N : Nat} (h : OkN ar N) : OkN (prepAr ar).2 (N + 1) ∧ (prepAr ar).1 < (prepAr ar).2.slots.length ∧ ((prepAr ar).2.at (prepAr ar).1).count ≤ N ∧ (prepAr ar).2.used = ar.used := by
  have u := h.up (Nat.le_succ N)
  unfold prepAr
  cases hf : ar.free with
  | nil =>
    refine ⟨⟨u.most, u.used, by have := h.few; simp; omega, fun s hs => ?_, u.faults, fun i hi => by simp [hf] at hi, by simp [hf]⟩, by simp, by simp [Ar.at, List.getD, noSl], rfl⟩
    simp only [List.mem_append, List.mem_singleton] at hs
    rcases hs with hs | rfl
    · exact u.cnt s hs
    · exact ⟨Nat.zero_le _, noNd_few⟩
  | cons i r =>
    have hi := h.free i (by rw [hf]; exact List.mem_cons_self)
    refine ⟨⟨u.most, u.used, u.few, u.cnt, u.faults, fun j hj => h.free j (by rw [hf]; exact List.mem_cons_of_mem _ hj), by have := u.frees; rw [hf] at this; simp at this ⊢; omega⟩, hi, (h.at hi).1, rfl⟩
theorem OkN.alloc {ar : Ar} {N : Nat} (h : OkN ar N) (nd : Nd) (hnd : nd.few) : OkN (allocAr nd ar).2 (N + 1) := by
  unfold allocAr
  split
  · exact h.up (Nat.le_succ N)
  · obtain ⟨p1, p2, p3, p4⟩ := h.prep
    have q := p1.put (prepAr ar).1 (newSl nd (((prepAr ar).2.at (prepAr ar).1).count + 1)) ⟨by simp [newSl]; omega, hnd⟩
    refine ⟨q.most, ?_, q.few, q.cnt, q.faults, q.free, q.frees⟩
    have := h.used
    simp only
    omega
theorem OkN.freed {ar : Ar} {N : Nat} (h : OkN ar N) (r : Int) : OkN (freeAr r ar).2 (N + 1) := by
  unfold freeAr
  cases hr : arAt ar r with
  | none => exact h.fault
  | some p =>
    have hp : p < ar.slots.length := (List.getElem?_eq_some_iff.1 (at_get hr)).1
    have q := (h.up (Nat.le_succ N)).put p { ar.at p with used := false } ⟨by have := (h.at hp).1; show (ar.at p).count ≤ _; omega, (h.at hp).2⟩
    refine ⟨q.most, ?_, q.few, q.cnt, q.faults, fun i hi => ?_, ?_⟩
    · have := h.used
      simp only
      omega
    · simp only [List.mem_append, List.mem_singleton] at hi
      simp only [Ar.put, List.length_set]
      rcases hi with hi | rfl
      · exact h.free i hi
      · exact hp
    · have := h.frees
      simp; omega
theorem RdV_nil (w : World) (sz : Nat) : RdV w nilS 0 sz [] := ⟨by simp, by simp, .inl ⟨rfl, rfl⟩⟩
section
variable {w0 w : World} {l : List Piece} {a : Nat} {ar : Ar}
/-- A node of no entries. -/
theorem AllocNo_h (h : Heap w0 w l) (i : Nat) (hi : l[i]? = some (areP a ar)) (ok : MoreAr ar) (b t : Bool) :
    Calls Try.prog 12 #[.pointer (some ⟨a, 0, none⟩), .agg #[.bool b, .bool t, .slice none 0 0, .slice none 0 0, .slice none 0 0]] w fun e w' => e = .returned (.tuple #[.int .i64 (allocAr ⟨b, t, [], [], []⟩ ar).1.1, .bool (allocAr ⟨b, t, [], [], []⟩ ar).1.2]) ∧ Heap w0 w' (l.set i (areP a (allocAr ⟨b, t, [], [], []⟩ ar).2)) :=
  Alloc_h h i hi ok ⟨b, t, [], [], []⟩ ⟨Nat.zero_le _, Nat.zero_le _, Nat.zero_le _⟩ nilS nilS nilS (fun x q _ => ⟨RdV_nil x 2, RdV_nil x 1, RdV_nil x 1⟩)
end
/-- What an arena of no free places makes next. -/
theorem alloc_next {ar : Ar} (nd : Nd) (h : ¬ ar.most ≤ ar.used) (hf : ar.free = []) : allocAr nd ar = ((refOf ar.slots.length 1, true), { ar with slots := ar.slots ++ [newSl nd 1], used := ar.used + 1 }) := by
  unfold allocAr prepAr
  rw [if_neg h, hf]
  simp [Ar.at, Ar.put, List.getD, noSl]
theorem alloc_full {ar : Ar} (nd : Nd) (h : ar.most ≤ ar.used) : allocAr nd ar = ((0, false), ar) := by unfold allocAr; rw [if_pos h]
end Go.Proofs.Ytolkpmbmgiplcaa
