/- Work that goes alone: what it asks, what it comes to; how many Steps that takes. No program, no condition. -/
import Derived.Test.YthkohomogknddaaWld
namespace Go.Proofs.Ythkohomogknddaa
open Go Go.RowKit
set_option maxRecDepth 100000
set_option linter.unusedVariables false
set_option linter.unusedSimpArgs false
/-- A touch that keeps the bounds, and how many threads there are. -/
def Tame (f : Wd → Int × Wd) : Prop := (∀ N, Good N f) ∧ ∀ s, (f s).2.ep.said.length = s.ep.said.length
theorem tame_now : Tame aNow := ⟨fun _ => good_now, fun _ => rfl⟩
theorem tame_said (k : Int) : Tame (aSaid k) := ⟨fun _ => good_said k, fun _ => rfl⟩
theorem tame_say (t n : Int) : Tame (aSay t n) := ⟨fun _ => good_say t n, fun s => by unfold aSay sayEp; dsimp only; split <;> simp⟩
theorem tame_swap (n : Int) : Tame (aSwap n) := ⟨fun _ => good_swap n, fun s => rfl⟩
theorem take_len (t n : Int) (s : Ep) : (takeEp t n s).2.said = s.said := by
  unfold takeEp
  split
  · split
    · split <;> rfl
    · rfl
  · rfl
theorem tame_one (t n : Int) : Tame (aOne t n) := ⟨fun _ => good_one t n, fun s => by
  unfold aOne; dsimp only
  split <;> (dsimp only; rw [take_len])⟩
theorem tame_leave (t r n : Int) (hn : -9223372036854775808 ≤ n ∧ n ≤ 9223372036854775807) : Tame (aLeave t r n) := ⟨fun _ => good_leave t r n hn, fun s => by unfold aLeave leaveEp; dsimp only; split <;> rfl⟩
theorem tame_alloc (nd : Nd) (h : nd.few) : Tame (aAlloc nd) := ⟨fun _ => good_alloc nd h, fun _ => rfl⟩
theorem tame_free (r : Int) : Tame (aFree r) := ⟨fun _ => good_free r, fun _ => rfl⟩
theorem tame_info (r : Int) : Tame (aInfo r) := ⟨fun _ => good_info r, fun _ => rfl⟩
theorem tame_mark (r : Int) : Tame (aMark r) := ⟨fun _ => good_mark r, fun _ => rfl⟩
theorem tame_setMark (r : Int) : Tame (aSetMark r) := ⟨fun _ => good_setMark r, fun _ => rfl⟩
theorem tame_way (r i : Int) : Tame (aWay r i) := ⟨fun _ => good_way r i, fun _ => rfl⟩
theorem tame_swapInfo (r o n : Int) : Tame (aSwapInfo r o n) := ⟨fun _ => good_swapInfo r o n, fun _ => rfl⟩
theorem tame_swapWay (r i o n : Int) : Tame (aSwapWay r i o n) := ⟨fun _ => good_swapWay r i o n, fun _ => rfl⟩
theorem tame_state (n : Int) : Tame (aState n) := ⟨fun _ => good_state n, fun _ => rfl⟩
theorem tame_all (n : Int) : Tame (aAll n) := ⟨fun _ => good_all n, fun _ => rfl⟩
theorem tame_set (n v : Int) : Tame (aSet n v) := ⟨fun _ => good_set n v, fun _ => rfl⟩
theorem tame_setAll (n : Int) : Tame (aSetAll n) := ⟨fun _ => good_setAll n, fun _ => rfl⟩
theorem tame_make (c : Rc) (h : c.nodes.length ≤ 1000 ∧ c.infos.length ≤ 1000) : Tame (aMake c) := ⟨fun _ => good_make c h, fun _ => rfl⟩
/-- Alone, from a world of which E is known, it is answered l, and comes to v; then F is known. -/
inductive Runs {α : Type} : Ev → Wk α → Wd → List Int → α → Ev → Wd → Prop
  | ret {E : Ev} {v : α} {s : Wd} : Runs E (.ret v) s [] v E s
  | ask {E F G : Ev} {f : Wd → Int × Wd} {k : Int → Wk α} {s s' : Wd} {l : List Int} {v : α} (ht : Tame f) (hl : E.le F) (hi : F.is (f s).2) (h : Runs F (k (f s).1) (f s).2 l v G s') : Runs E (.ask f k) s ((f s).1 :: l) v G s'
  | look {E G : Ev} {r : Int} {k : Nd → Wk α} {s s' : Wd} {l : List Int} {v : α} {nd : Nd} (hn : E.node r = some nd) (h : Runs E (k nd) s l v G s') : Runs E (.look r k) s l v G s'
  | recd {E G : Ev} {n : Int} {k : Rc → Wk α} {s s' : Wd} {l : List Int} {v : α} {c : Rc} (hn : E.rcd n = some c) (h : Runs E (k c) s l v G s') : Runs E (.recd n k) s l v G s'
section
variable {α β : Type}
theorem Runs.le {E G : Ev} {p : Wk α} {s s' : Wd} {l : List Int} {v : α} (h : Runs E p s l v G s') : E.le G := by
  induction h with
  | ret => exact Ev.le_refl _
  | ask ht hl hi h ih => exact Ev.le_trans hl ih
  | look hn h ih => exact ih
  | recd hn h ih => exact ih
theorem Runs.bind {E F G : Ev} {p : Wk α} {q : α → Wk β} {s s1 s2 : Wd} {l m : List Int} {v : α} {u : β} (h : Runs E p s l v F s1) (k : Runs F (q v) s1 m u G s2) : Runs E (p.bind q) s (l ++ m) u G s2 := by
  induction h with
  | ret => exact k
  | ask ht hl hi h ih => exact .ask ht hl hi (ih k)
  | look hn h ih => exact .look hn (ih k)
  | recd hn h ih => exact .recd hn (ih k)
/-- Where it stands: at its end, or ahead of a touch. -/
theorem Runs.head {E G : Ev} {p : Wk α} {s s' : Wd} {l : List Int} {v : α} (h : Runs E p s l v G s') : (l = [] ∧ p.rest E [] = .ret v ∧ s' = s ∧ G = E) ∨ ∃ f k F m, p.rest E [] = .ask f k ∧ l = (f s).1 :: m ∧ Tame f ∧ E.le F ∧ F.is (f s).2 ∧ Runs F (k (f s).1) (f s).2 m v G s' := by
  induction h with
  | ret => exact .inl ⟨rfl, rfl, rfl, rfl⟩
  | ask ht hl hi h ih => exact .inr ⟨_, _, _, _, rfl, rfl, ht, hl, hi, h⟩
  | look hn h ih => simp only [Wk.rest, hn]; exact ih
  | recd hn h ih => simp only [Wk.rest, hn]; exact ih
end
/-- What goes on alone: how far it is, what it will be answered, what it will come to, and where. -/
structure Goes (p : Wk (List Int)) (log : List Int) (s : Wd) (l : List Int) (v : List Int) (s' : Wd) : Prop where
  here : ∃ E G q, E.is s ∧ p.rest E log = q ∧ q ≠ .stuck ∧ Runs E q s l v G s'
theorem Goes.start {p : Wk (List Int)} {E G : Ev} {s s' : Wd} {l v : List Int} (hE : E.is s) (h : Runs E p s l v G s') : Goes p [] s l v s' := by
  rcases h.head with ⟨rfl, hp, rfl, rfl⟩ | ⟨f, k, F, m, hp, rfl, ht, hl, hi, hr⟩
  · exact ⟨G, G, .ret v, hE, hp, by simp, .ret⟩
  · exact ⟨E, G, .ask f k, hE, hp, by simp, .ask ht hl hi hr⟩
/-- Nothing is left to ask: a Step brings it to its end. -/
theorem Goes.over {p : Wk (List Int)} {log : List Int} {s s' : Wd} {v : List Int} (h : Goes p log s [] v s') : s' = s ∧ p.run ⟨log, 0, false, s⟩ = (.done v, ⟨log, log.length, false, s⟩) := by
  obtain ⟨E, G, q, hE, hq, hns, hr⟩ := h.here
  cases hr with
  | ret => exact ⟨rfl, Wk.run_ret hE hq⟩
  | look hn _ => rcases Wk.rest_head p log (by rw [hq]; simp) with ⟨v, hv⟩ | ⟨f, k, hv⟩ <;> rw [hq] at hv <;> cases hv
  | recd hn _ => rcases Wk.rest_head p log (by rw [hq]; simp) with ⟨v, hv⟩ | ⟨f, k, hv⟩ <;> rw [hq] at hv <;> cases hv
/-- One touch: the last one, or not. -/
theorem Goes.step {p : Wk (List Int)} {log : List Int} {s s' : Wd} {n : Int} {l v : List Int} (h : Goes p log s (n :: l) v s') :
    ∃ s1, (l = [] → s' = s1 ∧ p.run ⟨log, 0, false, s⟩ = (.done v, ⟨log ++ [n], log.length + 1, true, s1⟩)) ∧ (l ≠ [] → p.run ⟨log, 0, false, s⟩ = (.wait, ⟨log ++ [n], log.length + 1, true, s1⟩) ∧ Goes p (log ++ [n]) s1 l v s') ∧
      ∃ f k E, E.is s ∧ p.rest E log = .ask f k ∧ s1 = (f s).2 ∧ n = (f s).1 ∧ Tame f := by
  obtain ⟨E, G, q, hE, hq, hns, hr⟩ := h.here
  cases hr with
  | look hn _ => rcases Wk.rest_head p log (by rw [hq]; simp) with ⟨v, hv⟩ | ⟨f, k, hv⟩ <;> rw [hq] at hv <;> cases hv
  | recd hn _ => rcases Wk.rest_head p log (by rw [hq]; simp) with ⟨v, hv⟩ | ⟨f, k, hv⟩ <;> rw [hq] at hv <;> cases hv
  | ask ht hl hi hr =>
    rename_i F f k
    refine ⟨(f s).2, fun e => ?_, fun e => ?_, f, k, E, hE, hq, rfl, rfl, ht⟩
    · subst e
      rcases hr.head with ⟨_, hp, rfl, rfl⟩ | ⟨_, _, _, _, _, h0, _⟩
      · rw [Wk.run_step hE hi hq (by rw [hp]; simp), hp]
        exact ⟨rfl, rfl⟩
      · cases h0
    · rcases hr.head with ⟨h0, _⟩ | ⟨g, j, F2, m, hp, h0, ht2, hl2, hi2, hr2⟩
      · exact absurd h0 e
      · rw [Wk.run_step hE hi hq (by rw [hp]; simp), hp]
        refine ⟨rfl, ⟨F, G, .ask g j, hi, ?_, by simp, ?_⟩⟩
        · rw [Wk.rest_snoc hl p log _ hq, hp]
        · rw [h0]; exact .ask ht2 hl2 hi2 hr2
end Go.Proofs.Ythkohomogknddaa
