/- Two pieces as one; a tree's kids as one piece; a tree of its parts. No condition. -/
import Derived.Test.YtkbnoceekileiaaLdr
namespace Go.Proofs.Ytkbnoceekileiaa
open Go Go.RowKit
set_option linter.unusedVariables false
set_option linter.unusedSimpArgs false
set_option maxRecDepth 100000
theorem Heap.merge {w0 w : World} {m L : List Piece} {r : Piece} (h : Heap w0 w (m ++ L)) (f : ∀ S, Many w m S → r.holds w S) : Heap w0 w (r :: L) :=
  Heap.swapF ((h.swapF.pack).impEnd (q := r) (fun S hS => f S hS))
def shsP (l : List Sh) (cs : List Sv) : Piece := ⟨fun w S => ShsIn w S l cs, fun h hf hn _ => ShsIn.keep hf hn l cs h⟩
theorem Heap.shsNil {w0 w : World} {L : List Piece} (h : Heap w0 w L) : Heap w0 w (shsP [] [] :: L) :=
  Heap.swapF (h.push (p := shsP [] []) (S := fun _ => False) (Fr.refl _ _) (by show ShsIn w (fun _ => False) [] []; unfold ShsIn; trivial) (fun _ x => x.elim))
theorem ShsIn.snoc {w : World} {S : Nat → Prop} {l : List Sh} {cs : List Sv} {s : Sh} {c : Sv} (h : ShsIn w S l cs) (hl : cs.length = l.length) (h2 : ShIn w S s c) : ShsIn w S (l ++ [s]) (cs ++ [c]) := by
  refine ShsIn.of_get _ _ (by simp [hl]) (fun i x y hx hy => ?_)
  by_cases hi : i < l.length
  · rw [List.getElem?_append_left hi] at hx
    rw [List.getElem?_append_left (by omega)] at hy
    exact ShsIn.get l cs i x y h hx hy
  · rw [List.getElem?_append_right (by omega)] at hx
    rw [List.getElem?_append_right (by omega), hl] at hy
    obtain ⟨rfl, rfl⟩ : x = s ∧ y = c := by
      have : i - l.length = 0 := by
        have := (List.getElem?_eq_some_iff.1 hx).1
        simpa using this
      rw [this] at hx hy
      simp at hx hy
      exact ⟨hx.symm, hy.symm⟩
    exact h2
theorem Heap.shsPush {w0 w : World} {L : List Piece} {l : List Sh} {cs : List Sv} {s : Sh} {c : Sv} (h : Heap w0 w (shsP l cs :: shP s c :: L)) (hl : cs.length = l.length) : Heap w0 w (shsP (l ++ [s]) (cs ++ [c]) :: L) :=
  Heap.merge (m := [shsP l cs, shP s c]) h (fun S hS => by
    obtain ⟨T, h1, h2⟩ := hS.get 0 rfl
    obtain ⟨U, h3, h4⟩ := hS.get 1 rfl
    exact ShsIn.snoc (ShsIn.more (fun k hk => (h2 k hk).1) _ _ h1) hl (ShIn.more (fun k hk => (h4 k hk).1) _ _ h3))
theorem rdP_in {w : World} {S T : Nat → Prop} {v : Value} {n sz : Nat} {us : List Value} (h : (rdP sz v n us).holds w T) (hs : ∀ k, T k → S k) : RdIn w S v n sz us := ⟨h.1, fun g hg => hs g (h.2 g hg)⟩
/-- A tree of its rows. -/
theorem Heap.shMake {w0 w : World} {L : List Piece} {lf tg : Bool} {ps : List (Int × Int)} {ks : List Int} {kids : List Sh} {cs : List Sv} {tp tk tc : TypeId} {vp vk vc : Value} (hl : cs.length = kids.length)
    (h : Heap w0 w ([rowP tp 2 vp ps.length (pairC ps), rowP tk 1 vk ks.length (intC ks), rowP tc 5 vc kids.length ((kids.zip cs).flatMap shC), shsP kids cs] ++ L)) : Heap w0 w (shP (.mk lf tg ps ks kids) ⟨vp, vk, vc⟩ :: L) :=
  Heap.merge h (fun S hS => by
    obtain ⟨T0, a0, b0⟩ := hS.get 0 rfl
    obtain ⟨T1, a1, b1⟩ := hS.get 1 rfl
    obtain ⟨T2, a2, b2⟩ := hS.get 2 rfl
    obtain ⟨T3, a3, b3⟩ := hS.get 3 rfl
    show ShIn w S _ _
    unfold ShIn
    exact ⟨rdP_in (rowP_rd a0) (fun k hk => (b0 k hk).1), rdP_in (rowP_rd a1) (fun k hk => (b1 k hk).1), cs, hl, rdP_in (rowP_rd a2) (fun k hk => (b2 k hk).1), ShsIn.more (fun k hk => (b3 k hk).1) _ _ a3⟩)
theorem ShIn.form {w : World} {S : Nat → Prop} : ∀ {s : Sh} {v : Sv}, ShIn w S s v → ∃ ap cp ak ck ac cc, v = ⟨.slice ap s.ps.length cp, .slice ak s.ks.length ck, .slice ac s.kids.length cc⟩
  | .mk lf tg ps ks kids, v, h => by
    unfold ShIn at h
    obtain ⟨h1, h2, cs, _, h3, _⟩ := h
    obtain ⟨ap, cp, e1⟩ := h1.1.len
    obtain ⟨ak, ck, e2⟩ := h2.1.len
    obtain ⟨ac, cc, e3⟩ := h3.1.len
    cases v
    simp only at e1 e2 e3
    subst e1 e2 e3
    exact ⟨ap, cp, ak, ck, ac, cc, rfl⟩
theorem Heap.shForm {w0 w : World} {L : List Piece} (h : Heap w0 w L) (i : Nat) {s : Sh} {v : Sv} (hi : L[i]? = some (shP s v)) : ∃ ap cp ak ck ac cc, v = ⟨.slice ap s.ps.length cp, .slice ak s.ks.length ck, .slice ac s.kids.length cc⟩ := by
  obtain ⟨S, hS, _⟩ := h.get i hi
  exact ShIn.form hS
theorem InArs.at {ar : Ar} : ∀ (l : List Sh) (rs : List Int) (i : Nat) (s : Sh), InArs ar l rs → l[i]? = some s → ∃ r, rs[i]? = some r ∧ InAr ar s r
  | [], _, i, s, _, h => by simp at h
  | x :: l, r :: rs, 0, s, h, h1 => by
    simp at h1
    subst h1
    unfold InArs at h
    exact ⟨r, rfl, h.1⟩
  | x :: l, r :: rs, i + 1, s, h, h1 => by
    unfold InArs at h
    exact InArs.at l rs i s h.2 (by simpa using h1)
  | _ :: _, [], i, s, h, _ => by unfold InArs at h; exact h.elim
mutual
/-- How deep a tree is. -/
def dpSh : Sh → Nat
  | .mk _ _ _ _ kids => dpShs kids
def dpShs : List Sh → Nat
  | [] => 0
  | s :: l => max (dpSh s + 1) (dpShs l)
end
theorem dpShs_at : ∀ (l : List Sh) (i : Nat) (s : Sh), l[i]? = some s → dpSh s + 1 ≤ dpShs l
  | [], i, s, h => by simp at h
  | x :: l, 0, s, h => by
    simp at h
    subst h
    rw [dpShs]
    exact Nat.le_max_left _ _
  | x :: l, i + 1, s, h => by
    rw [dpShs]
    exact Nat.le_trans (dpShs_at l i s (by simpa using h)) (Nat.le_max_right _ _)
theorem dpSh_kid {lf tg : Bool} {ps : List (Int × Int)} {ks : List Int} {kids : List Sh} {i d : Nat} {s : Sh} (h : dpSh (.mk lf tg ps ks kids) ≤ d) (hi : kids[i]? = some s) : ∃ e, d = e + 1 ∧ dpSh s ≤ e := by
  rw [dpSh] at h
  have := dpShs_at kids i s hi
  exact ⟨d - 1, by omega, by omega⟩
theorem Heap.appRow {w0 w wa w' : World} {l : List Piece} (h : Heap w0 w l) (i : Nat) {t : TypeId} {sz n n' m : Nat} {v v' : Value} {us us' : List Value} (hi : l[i]? = some (rowP t sz v n us)) (hf : Fr nob w wa)
    (hq : QRow w' t sz v' n' us') (hg : wa.grownBy w' v.ownBlock) (hat : ∀ g, v'.ownBlock = some g → (m = 0 ∧ w' = wa ∧ v' = v) ∨ ((v.ownBlock = some g ∨ wa.heap.size ≤ g) ∧ ∃ c, Blk w' g t c)) : Heap w0 w' (l.set i (rowP t sz v' n' us')) := by
  obtain ⟨S, hS, _⟩ := h.get i hi
  refine h.growRow i hi hf hq hg (fun g hgg => ?_)
  rcases hat g hgg with ⟨_, rfl, rfl⟩ | h1
  · obtain ⟨_, c, hc⟩ := hS.2 g hgg
    exact ⟨.inl hgg, c, hc.fr hf (fun x => x)⟩
  · exact h1
theorem Heap.row0F {w0 w : World} {L : List Piece} (h : Heap w0 w L) (t : TypeId) (sz : Nat) : Heap w0 (w.alloc (.cells #[] t)) (rowP t sz (.slice (some ⟨w.heap.size, 0, none⟩) 0 0) 0 [] :: L) :=
  Heap.swapF (h.push (p := rowP t sz (.slice (some ⟨w.heap.size, 0, none⟩) 0 0) 0 []) (S := fun k => k = w.heap.size) (Fr.alloc (Fr.refl _ _) _) ⟨QRow.none0 _ _, fun g hg => by
    simp [Value.ownBlock] at hg
    subst hg
    exact ⟨rfl, _, Blk.new _ _ _⟩⟩ (fun k hk => by subst hk; simp))
theorem get_front {α : Type} {L : List α} {i : Nat} {x : α} (m : List α) (h : L[i]? = some x) : (m ++ L)[m.length + i]? = some x := by
  rw [List.getElem?_append_right (by omega), Nat.add_sub_cancel_left]; exact h
end Go.Proofs.Ytkbnoceekileiaa
