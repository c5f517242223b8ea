/- A tree in memory: a struct whose kids lie in a row, each a tree; slices cut; pieces that are read alone. No condition. -/
import Derived.Test.YtkbnoceekileiaaRws
import Derived.Test.YtkbnoceekileiaaK2
namespace Go.Proofs.Ytkbnoceekileiaa
open Go Go.RowKit
set_option linter.unusedVariables false
set_option linter.unusedSimpArgs false
/-- A tree. -/
inductive Sh where
  | mk (lf tg : Bool) (ps : List (Int × Int)) (ks : List Int) (kids : List Sh)
namespace Sh
def lf : Sh → Bool | .mk a _ _ _ _ => a
def tg : Sh → Bool | .mk _ a _ _ _ => a
def ps : Sh → List (Int × Int) | .mk _ _ a _ _ => a
def ks : Sh → List Int | .mk _ _ _ a _ => a
def kids : Sh → List Sh | .mk _ _ _ _ a => a
end Sh
/-- Its three slices. -/
structure Sv where
  vp : Value
  vk : Value
  vc : Value
def shC (x : Sh × Sv) : List Value := [.bool x.1.lf, .bool x.1.tg, x.2.vp, x.2.vk, x.2.vc]
theorem shC_len (x : Sh × Sv) : (shC x).length = 5 := rfl
def shV (s : Sh) (v : Sv) : Value := .agg #[.bool s.lf, .bool s.tg, v.vp, v.vk, v.vc]
/-- A slice that can be read, and that lies in some blocks. -/
def RdIn (w : World) (S : Nat → Prop) (v : Value) (n sz : Nat) (us : List Value) : Prop := RdV w v n sz us ∧ ∀ g, v.ownBlock = some g → S g
mutual
/-- A tree lies in some blocks. -/
def ShIn (w : World) (S : Nat → Prop) : Sh → Sv → Prop
  | .mk lf tg ps ks kids, v => RdIn w S v.vp ps.length 2 (pairC ps) ∧ RdIn w S v.vk ks.length 1 (intC ks) ∧ ∃ cs : List Sv, cs.length = kids.length ∧ RdIn w S v.vc kids.length 5 ((kids.zip cs).flatMap shC) ∧ ShsIn w S kids cs
def ShsIn (w : World) (S : Nat → Prop) : List Sh → List Sv → Prop
  | [], _ => True
  | s :: l, c :: cs => ShIn w S s c ∧ ShsIn w S l cs
  | _ :: _, [] => False
end
theorem RdIn.keep {w w' : World} {S F : Nat → Prop} {v : Value} {n sz : Nat} {us : List Value} (h : RdIn w S v n sz us) (hf : Fr F w w') (hn : ∀ k, S k → ¬ F k) : RdIn w' S v n sz us :=
  ⟨h.1.fr hf (fun g hg _ => hn g (h.2 g hg)), h.2⟩
theorem RdIn.more {w : World} {S S' : Nat → Prop} {v : Value} {n sz : Nat} {us : List Value} (h : RdIn w S v n sz us) (hs : ∀ k, S k → S' k) : RdIn w S' v n sz us := ⟨h.1, fun g hg => hs g (h.2 g hg)⟩
mutual
theorem ShIn.keep {w w' : World} {S F : Nat → Prop} (hf : Fr F w w') (hn : ∀ k, S k → ¬ F k) : ∀ (s : Sh) (v : Sv), ShIn w S s v → ShIn w' S s v
  | .mk lf tg ps ks kids, v, h => by
    unfold ShIn at h ⊢
    obtain ⟨h1, h2, cs, h3, h4, h5⟩ := h
    exact ⟨h1.keep hf hn, h2.keep hf hn, cs, h3, h4.keep hf hn, ShsIn.keep hf hn kids cs h5⟩
theorem ShsIn.keep {w w' : World} {S F : Nat → Prop} (hf : Fr F w w') (hn : ∀ k, S k → ¬ F k) : ∀ (l : List Sh) (cs : List Sv), ShsIn w S l cs → ShsIn w' S l cs
  | [], _, _ => by unfold ShsIn; trivial
  | s :: l, c :: cs, h => by
    unfold ShsIn at h ⊢
    exact ⟨ShIn.keep hf hn s c h.1, ShsIn.keep hf hn l cs h.2⟩
  | _ :: _, [], h => by unfold ShsIn at h; exact h.elim
end
mutual
theorem ShIn.more {w : World} {S S' : Nat → Prop} (hs : ∀ k, S k → S' k) : ∀ (s : Sh) (v : Sv), ShIn w S s v → ShIn w S' s v
  | .mk lf tg ps ks kids, v, h => by
    unfold ShIn at h ⊢
    obtain ⟨h1, h2, cs, h3, h4, h5⟩ := h
    exact ⟨h1.more hs, h2.more hs, cs, h3, h4.more hs, ShsIn.more hs kids cs h5⟩
theorem ShsIn.more {w : World} {S S' : Nat → Prop} (hs : ∀ k, S k → S' k) : ∀ (l : List Sh) (cs : List Sv), ShsIn w S l cs → ShsIn w S' l cs
  | [], _, _ => by unfold ShsIn; trivial
  | s :: l, c :: cs, h => by
    unfold ShsIn at h ⊢
    exact ⟨ShIn.more hs s c h.1, ShsIn.more hs l cs h.2⟩
  | _ :: _, [], h => by unfold ShsIn at h; exact h.elim
end
def shP (s : Sh) (v : Sv) : Piece := ⟨fun w S => ShIn w S s v, fun h hf hn _ => ShIn.keep hf hn s v h⟩
theorem ShsIn.get {w : World} {S : Nat → Prop} : ∀ (l : List Sh) (cs : List Sv) (i : Nat) (s : Sh) (c : Sv), ShsIn w S l cs → l[i]? = some s → cs[i]? = some c → ShIn w S s c
  | [], _, i, s, c, _, h, _ => by simp at h
  | x :: l, y :: cs, 0, s, c, h, h1, h2 => by
    simp at h1 h2
    subst h1 h2
    unfold ShsIn at h
    exact h.1
  | x :: l, y :: cs, i + 1, s, c, h, h1, h2 => by
    unfold ShsIn at h
    exact ShsIn.get l cs i s c h.2 (by simpa using h1) (by simpa using h2)
  | _ :: _, [], i, s, c, h, _, _ => by unfold ShsIn at h; exact h.elim
theorem ShsIn.of_get {w : World} {S : Nat → Prop} : ∀ (l : List Sh) (cs : List Sv), cs.length = l.length → (∀ (i : Nat) (s : Sh) (c : Sv), l[i]? = some s → cs[i]? = some c → ShIn w S s c) → ShsIn w S l cs
  | [], _, _, _ => by unfold ShsIn; trivial
  | x :: l, y :: cs, hl, h => by
    unfold ShsIn
    exact ⟨h 0 x y rfl rfl, ShsIn.of_get l cs (by simpa using hl) (fun i s c h1 h2 => h (i + 1) s c (by simpa using h1) (by simpa using h2))⟩
  | _ :: _, [], hl, _ => by simp at hl
/-- A slice's first elements; those behind. -/
theorem RdV.takeN {w : World} {a : Addr} {n c sz k : Nat} {us : List Value} (h : RdV w (.slice (some a) n c) n sz us) (hk : k ≤ n) {c' : Nat} (hc : k ≤ c') : RdV w (.slice (some a) k c') k sz (us.take (k * sz)) := by
  obtain ⟨h0, hm, h1⟩ := h
  have hkn : k * sz ≤ n * sz := Nat.mul_le_mul_right sz hk
  refine ⟨by rw [List.length_take, h0]; omega, by omega, .inr ⟨a, c', rfl, hc, fun j hj => ?_⟩⟩
  rcases h1 with ⟨h1, _⟩ | ⟨a', c2, h1, _, h3⟩
  · simp at h1
  · simp only [Value.slice.injEq, Option.some.injEq] at h1
    obtain ⟨rfl, _, _⟩ := h1
    rw [h3 j (by omega), List.getElem?_take, if_pos hj]
theorem RdV.dropN {w : World} {a : Addr} {n c sz k : Nat} {us : List Value} (h : RdV w (.slice (some a) n c) n sz us) (hk : k ≤ n) {c' : Nat} (hc : n - k ≤ c') : RdV w (.slice (some (a.add (k * sz))) (n - k) c') (n - k) sz (us.drop (k * sz)) := by
  have hkn : n * sz = k * sz + (n - k) * sz := by rw [← Nat.add_mul]; congr 1; omega
  obtain ⟨h0, hm, h1⟩ := h
  refine ⟨by rw [List.length_drop, h0, hkn]; exact Nat.add_sub_cancel_left .., Nat.le_trans (Nat.sub_le _ _) hm, .inr ⟨_, c', rfl, hc, fun j hj => ?_⟩⟩
  rcases h1 with ⟨h1, _⟩ | ⟨a', c2, h1, _, h3⟩
  · simp at h1
  · simp only [Value.slice.injEq, Option.some.injEq] at h1
    obtain ⟨rfl, _, _⟩ := h1
    rw [Go.Deep.add_add, h3 (k * sz + j) (by rw [hkn]; exact Nat.add_lt_add_left hj _), List.getElem?_drop]
end Go.Proofs.Ytkbnoceekileiaa
