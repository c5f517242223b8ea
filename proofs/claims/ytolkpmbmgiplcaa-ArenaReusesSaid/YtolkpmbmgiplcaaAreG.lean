/- A place is filled: what that makes of the arena. No condition. -/
import Derived.Test.YtolkpmbmgiplcaaAreF
namespace Go.Proofs.Ytolkpmbmgiplcaa
open Go Go.RowKit
set_option linter.unusedVariables false
set_option linter.unusedSimpArgs false
/-- A piece gives way to another one, elsewhere. -/
theorem Many.swap {w : World} {l : List Piece} {S T : Nat → Prop} (h : Many w l S) (i : Nat) {p' : Piece} (hi : i < l.length) (hp : p'.holds w T) (hT : ∀ k, T k → ¬ S k ∧ k < w.heap.size) : Many w (l.set i p') (fun k => S k ∨ T k) := by
  obtain ⟨σ, h1, h2, h3⟩ := h
  refine ⟨fun j k => if j = i then T k else σ j k, fun j P hj => ?_, fun j k hk => ?_, fun j j' k hj hj' => ?_⟩
  · by_cases hji : j = i
    · subst hji
      rw [List.getElem?_set_self hi] at hj
      simp at hj
      subst hj
      simpa using hp
    · rw [List.getElem?_set_ne (fun x => hji x.symm)] at hj
      simp only [hji, if_false]
      exact h1 j P hj
  · simp only at hk
    split at hk
    · exact ⟨.inr hk, (hT k hk).2⟩
    · exact ⟨.inl (h2 j k hk).1, (h2 j k hk).2⟩
  · simp only at hj hj'
    split at hj <;> split at hj'
    · omega
    · exact absurd (h2 j' k hj').1 (hT k hj).1
    · exact absurd (h2 j k hj).1 (hT k hj').1
    · exact h3 j j' k hj hj'
theorem Many.weaken {w : World} {l l' : List Piece} {S : Nat → Prop} (h : Many w l S) (hw : ∀ (i : Nat) (P' : Piece), l'[i]? = some P' → ∃ P, l[i]? = some P ∧ ∀ T, P.holds w T → P'.holds w T) : Many w l' S := by
  obtain ⟨σ, h1, h2, h3⟩ := h
  exact ⟨σ, fun i P' hi => by obtain ⟨P, hP, hk⟩ := hw i P' hi; exact hk _ (h1 i P hP), h2, h3⟩
theorem slotsC_other (sl : List (Sl × Vs)) (p : Nat) (y : Sl × Vs) (k : Nat) (h : k < p * 10 ∨ p * 10 + 10 ≤ k) : (slotsC (sl.set p y))[k]? = (slotsC sl)[k]? := by
  have hk : k = k / 10 * 10 + k % 10 := by omega
  have hne : p ≠ k / 10 := by omega
  by_cases hl : k / 10 < sl.length
  · have h1 : sl[k / 10]? = some sl[k / 10] := List.getElem?_eq_getElem hl
    have h2 : (sl.set p y)[k / 10]? = some sl[k / 10] := by rw [List.getElem?_set_ne hne, h1]
    rw [hk, slotsC_get _ _ _ _ h2 (by omega), slotsC_get _ _ _ _ h1 (by omega)]
  · rw [List.getElem?_eq_none (by rw [slotsC_length, List.length_set]; omega), List.getElem?_eq_none (by rw [slotsC_length]; omega)]
theorem QRow.fill {w : World} {t : TypeId} {g off cap : Nat} {sl : List (Sl × Vs)} (h : QRow w t 10 (.slice (some ⟨g, off, none⟩) sl.length cap) sl.length (slotsC sl)) {p : Nat} (hp : p < sl.length) (y : Sl × Vs) :
    QRow (w.setCells g (off + p * 10) (slotC y.1 y.2)) t 10 (.slice (some ⟨g, off, none⟩) sl.length cap) sl.length (slotsC (sl.set p y)) ∧ ∃ c, Blk (w.setCells g (off + p * 10) (slotC y.1 y.2)) g t c := by
  obtain ⟨h0, a, c, hv, h1, h2, h3⟩ := h
  simp only [Value.slice.injEq] at hv
  obtain ⟨rfl, _, rfl⟩ := hv
  rcases h3 with ⟨rfl, _⟩ | ⟨g', off', cur, hg, hb, h4, h5⟩
  · omega
  · simp only [Option.some.injEq, Addr.mk.injEq] at hg
    obtain ⟨rfl, rfl, _⟩ := hg
    obtain ⟨cur', k1, k2, k3, k4⟩ := Blk.setCells (slotC y.1 y.2) (off + p * 10) hb (by rw [slotC_length]; omega)
    refine ⟨⟨by rw [slotsC_length, List.length_set], _, cap, rfl, h1, h2, .inr ⟨g, off, cur', rfl, k1, by rw [k2]; exact h4, fun j u hu => ?_⟩⟩, cur', k1⟩
    by_cases hj : j < p * 10 ∨ p * 10 + 10 ≤ j
    · rw [slotsC_other sl p y j hj] at hu
      rw [k3 _ (by rw [slotC_length]; omega)]
      exact h5 j u hu
    · have hy : (sl.set p y)[p]? = some y := List.getElem?_set_self hp
      have hjj : j = p * 10 + (j - p * 10) := by omega
      rw [hjj, slotsC_get _ p _ _ hy (by omega)] at hu
      have := k4 _ _ hu
      rwa [show off + p * 10 + (j - p * 10) = off + j from by omega] at this
theorem setCells_fr {F : Nat → Prop} {w : World} {g off : Nat} {news : List Value} (hF : F g) : Fr F w (w.setCells g off news) := by
  obtain ⟨r1, r2, r3, r4⟩ := setCells_rest (g := g) news w off
  exact ⟨r1, r2, r3, Nat.le_of_eq r4.symm, fun k hk hn => setCells_other news w off k (fun e => hn (e ▸ hF))⟩
/-- A place is filled. -/
theorem Are.fill {w : World} {a : Nat} {S T : Nat → Prop} {ar : Ar} (h : Are w a S ar) {p : Nat} (hp : p < ar.slots.length) {s' : Sl} {v' : Vs} (hs' : (slotP s' v').holds w T) (hT : ∀ k, T k → ¬ S k ∧ k < w.heap.size) {g off cap : Nat} {x1 x2 x3 x4 : Value}
    (hb : Blk w a 78 #[.slice (some ⟨g, off, none⟩) ar.slots.length cap, x1, x2, x3, x4]) : S g ∧ Are (w.setCells g (off + p * 10) (slotC s' v')) a (fun k => S k ∨ T k) { ar with slots := ar.slots.set p s' } := by
  obtain ⟨vs, vf, sl, hM, hs⟩ := h
  have hlen : sl.length = ar.slots.length := by rw [← hs]; simp
  obtain ⟨T0, hb0, _⟩ := hM.get 0 rfl
  obtain rfl : vs = .slice (some ⟨g, off, none⟩) ar.slots.length cap := by
    have e1 := hb0.1.cell 0
    have e2 := hb.cell 0
    rw [e1] at e2
    simpa using e2
  have hM1 := hM.swap (3 + p) (p' := slotP s' v') (by simp [arL]; omega) hs' hT
  obtain ⟨T1, hr1, hT1, U⟩ := hM1.take 1 (p := rowP 80 10 (.slice (some ⟨g, off, none⟩) ar.slots.length cap) sl.length (slotsC sl)) (by rw [List.getElem?_set_ne (by omega)]; rfl)
  have hr2 := hr1
  rw [← hlen] at hr1
  have hg := (hr1.2 g rfl).1
  obtain ⟨Q, c, hc⟩ := hr1.1.fill (p := p) (by omega) (s', v')
  obtain ⟨Tz, hrz, hTz⟩ := hM.get 1 rfl
  refine ⟨(hTz g (hrz.2 g rfl).1).1, ?_⟩
  have M := U (S' := fun k => S k ∨ T k) (T' := T1) (p' := rowP 80 10 (.slice (some ⟨g, off, none⟩) sl.length cap) sl.length (slotsC (sl.set p (s', v')))) (setCells_fr (w := w) (off := off + p * 10) (news := slotC s' v') hg) ⟨Q, fun k hk => by
    simp [Value.ownBlock] at hk
    subst hk
    exact ⟨hg, c, hc⟩⟩ (fun _ x => .inl x) (fun _ x => x) (fun k hk => (hT1 k hk).1)
  refine ⟨.slice (some ⟨g, off, none⟩) ar.slots.length cap, vf, sl.set p (s', v'), ?_, by rw [List.map_set, hs]⟩
  unfold arL at M ⊢
  rw [List.length_set, List.map_set]
  rw [List.set_append_right _ _ (by simp)] at M
  rw [← hlen]
  rw [← hlen] at M
  simpa using M
section
variable {w0 w : World} {l : List Piece} {a : Nat} {ar : Ar}
/-- The same, as the heap has it: the four slices lie behind. -/
theorem fill_h (i : Nat) (hi : l[i]? = some (areP a ar)) {p : Nat} (hp : p < ar.slots.length) {nd : Nd} {vp vk vn vw : Value} {s' : Sl} (hnd : s'.nd = nd) (hw : s'.ways = nd.ways)
    (h : Heap w0 w (l ++ (ndL nd vp vk vn ++ [rowP 27 1 vw nd.ways.length (intC nd.ways)]))) {g off cap : Nat} {x1 x2 x3 x4 : Value} (hb : Blk w a 78 #[.slice (some ⟨g, off, none⟩) ar.slots.length cap, x1, x2, x3, x4]) :
    Heap w0 (w.setCells g (off + p * 10) (slotC s' ⟨vp, vk, vn, vw⟩)) (l.set i (areP a { ar with slots := ar.slots.set p s' })) := by
  have hil := (List.getElem?_eq_some_iff.1 hi).1
  have h1 := h.pack
  obtain ⟨S, T, hS, hT, hd, hlt, U⟩ := h1.take2 i l.length (get_left hi) (get_last _ _) (by omega)
  have hTs : (slotP s' ⟨vp, vk, vn, vw⟩).holds w T := by
    have hT : Many w _ T := hT
    refine Many.weaken hT (fun j P' hj => ?_)
    rw [hnd, hw] at hj
    have hj4 : j < 4 := (List.getElem?_eq_some_iff.1 hj).1
    rcases (by omega : j = 0 ∨ j = 1 ∨ j = 2 ∨ j = 3) with rfl | rfl | rfl | rfl <;> (simp at hj; subst hj)
    · exact ⟨_, rfl, fun T h => rowP_rd h⟩
    · exact ⟨_, rfl, fun T h => rowP_rd h⟩
    · exact ⟨_, rfl, fun T h => rowP_rd h⟩
    · exact ⟨_, rfl, fun T h => h⟩
  obtain ⟨hSg, E⟩ := Are.fill hS hp hTs (fun k hk => ⟨fun hs => hd k hs hk, (hlt k (.inr hk)).2⟩) hb
  have H := U (p' := areP a { ar with slots := ar.slots.set p s' }) (q' := nilP) (S' := fun k => S k ∨ T k) (T' := fun _ => False) (setCells_fr (.inl hSg)) E trivial (fun _ _ x => x) (fun k hk => by
    rcases hk with (hk | hk) | hk
    · exact .inl hk
    · exact .inr (.inl hk)
    · exact hk.elim)
  rw [List.set_append_left _ _ hil, List.set_append_right _ _ (by rw [List.length_set]; exact Nat.le_refl _)] at H
  exact H.first
end
end Go.Proofs.Ytolkpmbmgiplcaa
