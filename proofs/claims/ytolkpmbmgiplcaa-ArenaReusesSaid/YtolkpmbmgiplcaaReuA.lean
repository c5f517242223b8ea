/- ArenaReuses: the plain law: places that are freed, one behind the other, and used again in that order. No condition. -/
import Derived.Test.YtolkpmbmgiplcaaWAr1
namespace Go.Proofs.Ytolkpmbmgiplcaa
open Go Go.RowKit
set_option linter.unusedVariables false
set_option linter.unusedSimpArgs false
theorem put_at_self {ar : Ar} {p : Nat} {s : Sl} (h : p < ar.slots.length) : (ar.put p s).at p = s := by
  simp [Ar.at, Ar.put, List.getD, List.getElem?_set_self h]
theorem put_at_ne {ar : Ar} {p q : Nat} {s : Sl} (h : p ≠ q) : (ar.put p s).at q = ar.at q := by
  simp [Ar.at, Ar.put, List.getD, List.getElem?_set_ne h]
theorem at_of_used {ar : Ar} {p : Nat} (h : p < ar.slots.length) (h1 : p ≤ 60000) (hu : (ar.at p).used = true) (hc : (ar.at p).count = 1) : arAt ar (refOf p 1) = some p := by
  have hp : (refOf (p : Int) 1) % 1099511627776 - 1 = (p : Int) := by unfold refOf; omega
  have hg : ar.slots.getD p default = ar.at p := rfl
  unfold arAt
  simp only [hp]
  rw [Int.toNat_natCast, hg, hc, hu, if_pos ⟨by omega, by omega, rfl, rfl⟩]
/-- n places were had; those of g were freed, in that order; those of L are used. -/
structure Fe (ar : Ar) (n : Nat) (L g : List Nat) : Prop where
  ok : OkN ar (n + g.length)
  free : ar.free = g
  len : ar.slots.length = n
  used : ar.used = (n : Int) - g.length
  most : ar.most = 40
  live : ∀ p ∈ L, p < n ∧ (ar.at p).used = true ∧ (ar.at p).count = 1
  gone : ∀ p ∈ g, p < n ∧ (ar.at p).count = 1
  two : (L ++ g).Nodup
  faults : ar.faults = 0
theorem Fe.start : Fe (newAr 40) 0 [] [] :=
  ⟨OkN.new 40, rfl, rfl, rfl, rfl, fun p h => by simp at h, fun p h => by simp at h, by simp, rfl⟩
theorem Fe.more {ar : Ar} {n : Nat} (h : Fe ar n (List.range n) []) (hn : n < 40) (nd : Nd) (hnd : nd.few) : (allocAr nd ar).1 = (refOf n 1, true) ∧ Fe (allocAr nd ar).2 (n + 1) (List.range (n + 1)) [] := by
  have e := alloc_next nd (ar := ar) (by rw [h.most, h.used]; simp; omega) h.free
  have o := h.ok.alloc nd hnd
  rw [e] at o ⊢
  refine ⟨by rw [h.len], o, h.free, by simp [h.len], by simp only [h.used]; simp, h.most, fun p hp => ?_, fun p hp => by simp at hp, by simpa using List.nodup_range, h.faults⟩
  have hp' : p < n + 1 := by simpa using hp
  refine ⟨hp', ?_⟩
  by_cases hpn : p < n
  · have := (h.live p (by simpa using hpn)).2
    have ha : ({ ar with slots := ar.slots ++ [newSl nd 1], used := ar.used + 1 } : Ar).at p = ar.at p := by
      simp only [Ar.at, List.getD]
      rw [List.getElem?_append_left (by rw [h.len]; exact hpn)]
    rw [ha]; exact this
  · have hpe : p = ar.slots.length := by rw [h.len]; omega
    have ha : ({ ar with slots := ar.slots ++ [newSl nd 1], used := ar.used + 1 } : Ar).at p = newSl nd 1 := by
      simp only [Ar.at, List.getD, hpe]
      simp
    rw [ha]; exact ⟨rfl, rfl⟩
theorem Fe.freed {ar : Ar} {n : Nat} {L g : List Nat} (h : Fe ar n L g) (hn : n ≤ 40) {i p : Nat} (hi : L[i]? = some p) : (freeAr (refOf p 1) ar).1 = true ∧ Fe (freeAr (refOf p 1) ar).2 n (L.take i ++ L.drop (i + 1)) (g ++ [p]) := by
  have hpL : p ∈ L := List.mem_of_getElem? hi
  obtain ⟨hp, hu, hc⟩ := h.live p hpL
  have hat := at_of_used (ar := ar) (by rw [h.len]; exact hp) (by omega) hu hc
  have o := h.ok.freed (refOf p 1)
  have e : freeAr (refOf p 1) ar = (true, { (ar.put p { ar.at p with used := false }) with free := ar.free ++ [p], used := ar.used - 1 }) := by unfold freeAr; rw [hat]
  rw [e] at o ⊢
  have hil : i < L.length := (List.getElem?_eq_some_iff.1 hi).1
  have hLs : L = L.take i ++ p :: L.drop (i + 1) := by
    have hpe : L[i] = p := by
      have := (List.getElem?_eq_some_iff.1 hi).2
      exact this
    rw [← hpe]
    simp
  have htwo := h.two
  rw [hLs] at htwo
  have hperm : (L.take i ++ p :: L.drop (i + 1) ++ g).Perm ((L.take i ++ L.drop (i + 1)) ++ (g ++ [p])) :=
    List.perm_iff_count.2 (fun x => by simp only [List.count_append, List.count_cons, List.count_nil]; omega)
  have hnd := hperm.nodup_iff.1 htwo
  have hne : ∀ q, q ∈ L.take i ++ L.drop (i + 1) → p ≠ q := fun q hq e => by
    subst e
    have := (List.nodup_append.1 hnd).2.2 p hq p (by simp)
    exact this rfl
  have ha : ∀ q, p ≠ q → ({ (ar.put p { ar.at p with used := false }) with free := ar.free ++ [p], used := ar.used - 1 } : Ar).at q = ar.at q := fun q hq => put_at_ne hq
  have hs : ({ (ar.put p { ar.at p with used := false }) with free := ar.free ++ [p], used := ar.used - 1 } : Ar).at p = { ar.at p with used := false } := put_at_self (by rw [h.len]; exact hp)
  have hlen : (g ++ [p]).length = g.length + 1 := by simp
  refine ⟨rfl, by rw [hlen]; exact o, by rw [h.free], by simp [Ar.put, h.len], by rw [hlen]; simp only [h.used]; omega, h.most, fun q hq => ?_, fun q hq => ?_, hnd, h.faults⟩
  · rw [ha q (hne q hq)]
    refine h.live q ?_
    rw [hLs]
    simp only [List.mem_append, List.mem_cons] at hq ⊢
    exact hq.imp_right Or.inr
  · by_cases hqp : p = q
    · subst hqp
      rw [hs]
      exact ⟨hp, hc⟩
    · rw [ha q hqp]
      simp only [List.mem_append, List.mem_singleton] at hq
      exact h.gone q (hq.resolve_right (fun x => hqp x.symm))
/-- Of those freed k are used again, or there are new ones. -/
structure Re (ar : Ar) (n : Nat) (g : List Nat) (k : Nat) : Prop where
  ok : OkN ar (n + g.length + k)
  free : ar.free = g.drop k
  len : ar.slots.length = n + (k - g.length)
  used : ar.used = (n : Int) - g.length + k
  most : ar.most = 40
  gone : ∀ j p, k ≤ j → g[j]? = some p → p < n ∧ (ar.at p).count = 1
theorem Fe.re {ar : Ar} {n : Nat} {L g : List Nat} (h : Fe ar n L g) : Re ar n g 0 ∧ g.Nodup :=
  ⟨⟨h.ok, by simpa using h.free, by simpa using h.len, by simpa using h.used, h.most, fun j p _ hj => h.gone p (List.mem_of_getElem? hj)⟩, (List.nodup_append.1 h.two).2.1⟩
theorem Re.again {ar : Ar} {n : Nat} {g : List Nat} {k p : Nat} (h : Re ar n g k) (hg : g.Nodup) (hp : g[k]? = some p) (hn : n ≤ 20) (nd : Nd) (hnd : nd.few) (hk : k ≤ 15) :
    (allocAr nd ar).1 = (refOf p 2, true) ∧ Re (allocAr nd ar).2 n g (k + 1) := by
  have hkl : k < g.length := (List.getElem?_eq_some_iff.1 hp).1
  have hpe : g[k] = p := (List.getElem?_eq_some_iff.1 hp).2
  have hd : g.drop k = p :: g.drop (k + 1) := by rw [← hpe]; simp
  have o := h.ok.alloc nd hnd
  obtain ⟨hpn, hc⟩ := h.gone k p (Nat.le_refl _) hp
  have e : allocAr nd ar = ((refOf p 2, true), { ({ ar with free := g.drop (k + 1) } : Ar).put p (newSl nd 2) with used := ar.used + 1 }) := by
    unfold allocAr prepAr
    rw [if_neg (by rw [h.most, h.used]; omega), h.free, hd]
    have ha : ({ ar with free := g.drop (k + 1) } : Ar).at p = ar.at p := rfl
    simp only [ha, hc]
    rfl
  rw [e] at o ⊢
  refine ⟨rfl, o, rfl, by simp [Ar.put, h.len]; omega, by simp only [h.used]; omega, h.most, fun j q hj hq => ?_⟩
  have hqk : p ≠ q := fun x => by
    subst x
    have hjl : j < g.length := (List.getElem?_eq_some_iff.1 hq).1
    have hje : g[j] = p := (List.getElem?_eq_some_iff.1 hq).2
    exact (List.pairwise_iff_getElem.1 hg k j hkl hjl (by omega)) (hpe.trans hje.symm)
  have ha : ({ ({ ar with free := g.drop (k + 1) } : Ar).put p (newSl nd 2) with used := ar.used + 1 } : Ar).at q = ar.at q := (put_at_ne hqk).trans rfl
  rw [ha]
  exact h.gone j q (by omega) hq
theorem Re.fresh {ar : Ar} {n : Nat} {g : List Nat} {k : Nat} (h : Re ar n g k) (hk : g.length ≤ k) (hk2 : k ≤ 15) (hn : n ≤ 20) (nd : Nd) (hnd : nd.few) :
    (allocAr nd ar).1 = (refOf ((n + (k - g.length) : Nat) : Int) 1, true) ∧ Re (allocAr nd ar).2 n g (k + 1) := by
  have hf : ar.free = [] := by rw [h.free, List.drop_eq_nil_of_le hk]
  have e := alloc_next nd (ar := ar) (by rw [h.most, h.used]; omega) hf
  have o := h.ok.alloc nd hnd
  rw [e] at o ⊢
  refine ⟨by rw [h.len], o, by rw [List.drop_eq_nil_of_le (by omega)]; exact hf, by simp [h.len]; omega, by simp only [h.used]; omega, h.most, fun j q hj hq => ?_⟩
  have := (List.getElem?_eq_some_iff.1 hq).1
  omega
end Go.Proofs.Ytolkpmbmgiplcaa
