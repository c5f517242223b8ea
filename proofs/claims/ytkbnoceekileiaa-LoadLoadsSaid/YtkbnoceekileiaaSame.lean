/- The laws' Same: of equal nodes: yes. No condition but that they can be read. -/
import Derived.Test.YtkbnoceekileiaaK2
namespace Go.Proofs.Ytkbnoceekileiaa
open Go Go.RowKit
set_option linter.unusedVariables false
set_option linter.unusedSimpArgs false
theorem add_field (a : Addr) (n j : Nat) : a.add (n + (j + 1)) = ⟨(a.add n).block, (a.add n).off + (j + 1), none⟩ := by
  unfold Addr.add
  rw [if_neg (by omega)]
  split
  · simp_all
  · simp; omega
theorem pairC_length (l : List (Int × Int)) : (pairC l).length = l.length * 2 := by
  induction l with
  | nil => rfl
  | cons p l ih => simp only [pairC, List.flatMap_cons, List.length_append, List.length_cons, List.length_nil] at ih ⊢; omega
theorem pairC_get : ∀ (l : List (Int × Int)) (k : Nat) (p : Int × Int), l[k]? = some p → (pairC l)[k * 2 + 0]? = some (.int .i64 p.1) ∧ (pairC l)[k * 2 + 1]? = some (.int .i64 p.2)
  | [], k, p, h => by simp at h
  | q :: l, 0, p, h => by simp at h; subst h; exact ⟨rfl, rfl⟩
  | q :: l, k + 1, p, h => by
    simp at h
    have := pairC_get l k p h
    have e : pairC (q :: l) = [.int .i64 q.1, .int .i64 q.2] ++ pairC l := rfl
    rw [e]
    refine ⟨?_, ?_⟩
    · rw [List.getElem?_append_right (by simp; omega), show (k + 1) * 2 + 0 - ([.int .i64 q.1, .int .i64 q.2] : List Value).length = k * 2 + 0 from by simp; omega]
      exact this.1
    · rw [List.getElem?_append_right (by simp; omega), show (k + 1) * 2 + 1 - ([.int .i64 q.1, .int .i64 q.2] : List Value).length = k * 2 + 1 from by simp; omega]
      exact this.2
set_option maxHeartbeats 800000 in
theorem SameP_calls (v1 v2 : Value) (l : List (Int × Int)) (w : World) (h1 : RdV w v1 l.length 2 (pairC l)) (h2 : RdV w v2 l.length 2 (pairC l)) :
    Calls Try.prog 25 #[v1, v2] w fun e w' => e = .returned (.bool true) ∧ ∃ n, w' = w.drewN n := by
  have hm := h1.short
  unfold maxLen at hm
  obtain ⟨a1, c1, rfl⟩ := h1.len
  obtain ⟨a2, c2, rfl⟩ := h2.len
  have H1 := Lib.hid h1
  have H2 := Lib.hid h2
  clear h1 h2
  go_enter Try.func25, Try.ntmps25
  go_wp2_with fail
  go_loopw [13] (fun i wr => ∃ (k n : Nat), k ≤ l.length ∧ i = .int .i64 k ∧ wr = w.drewN n) (fun i _ => l.length - (intOf i).toNat)
  case atStart => exact ⟨0, 0, Nat.zero_le _, rfl, rfl⟩
  case round =>
    obtain ⟨k, n, hk, rfl, rfl⟩ := hrel
    by_cases hlt : k < l.length
    · obtain ⟨p, hp⟩ : ∃ p, l[k]? = some p := ⟨_, List.getElem?_eq_getElem hlt⟩
      obtain ⟨b1, rfl, hc1, hat1⟩ := H1.out.at (by omega)
      obtain ⟨b2, rfl, hc2, hat2⟩ := H2.out.at (by omega)
      obtain ⟨e0, e1⟩ := pairC_get l k p hp
      have x0 := hat1 _ _ e0
      have x1 := hat1 _ _ e1
      have y0 := hat2 _ _ e0
      have y1 := hat2 _ _ e1
      rw [Nat.add_zero] at x0 y0
      rw [add_field] at x1 y1
      obtain ⟨p1, p2⟩ := p
      simp only at x0 x1 y0 y1
      clear hat1 hat2 e0 e1 hp
      go_wp2_with fail
      go_quiet (fail)
      go_wp2_with fail
      exact ⟨⟨k + 1, _, by omega, by go_num, rfl⟩, by simp [intOf]; omega⟩
    · go_wp2_with fail
      go_ret
      exact ⟨rfl, n, rfl⟩
end Go.Proofs.Ytkbnoceekileiaa
