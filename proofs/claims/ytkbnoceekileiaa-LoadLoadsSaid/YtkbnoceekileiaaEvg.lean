/- boscagelaw11.Even: the even tree: its contract. No condition but the bounds of size. -/
import Derived.Test.YtkbnoceekileiaaPts
import Derived.Test.YtkbnoceekileiaaLdc
import Derived.Test.YtkbnoceekileiaaRdt
import Derived.Deep.DeepCutAuto
import Derived.Deep.CutRange
namespace Go.Proofs.Ytkbnoceekileiaa
open Go Go.RowKit
set_option linter.unusedVariables false
set_option linter.unusedSimpArgs false
set_option maxRecDepth 100000
theorem leafShs_snoc : ∀ (ps : List Nat) (k : Nat) (l : List (Int × Int)), leafShs (ps ++ [k]) l = leafShs ps l ++ [.mk true false ((l.drop ps.sum).take k) [] []]
  | [], k, l => by simp [leafShs]
  | p :: ps, k, l => by
    rw [List.cons_append, leafShs, leafShs, leafShs_snoc ps, List.sum_cons, List.drop_drop, List.cons_append]
theorem upShs_snoc : ∀ (ps : List Nat) (k : Nat) (row : List Sh) (fs : List Int), upShs (ps ++ [k]) row fs = upShs ps row fs ++ [.mk false false [] (((fs.drop ps.sum).take k).drop 1) ((row.drop ps.sum).take k)]
  | [], k, row, fs => by simp [upShs]
  | p :: ps, k, row, fs => by
    rw [List.cons_append, upShs, upShs, upShs_snoc ps, List.sum_cons, List.drop_drop, List.drop_drop, List.cons_append]
def leafS (n b i : Nat) (l : List (Int × Int)) : List Sh := leafShs ((partsN n b).take i) l
theorem leafS_next {n b i : Nat} (h : i < partK n b) (l : List (Int × Int)) : leafS n b (i + 1) l = leafS n b i l ++ [.mk true false ((l.drop (sumP n b i)).take (partAt n b i)) [] []] := by
  unfold leafS
  rw [partsN_next h, leafShs_snoc]
  rfl
theorem leafS_len {n b i : Nat} (h : i ≤ partK n b) (l : List (Int × Int)) : (leafS n b i l).length = i := by
  unfold leafS
  rw [leafShs_len, List.length_take, partsN_len]
  omega
def rowC (l : List Sh) (cs : List Sv) : List Value := (l.zip cs).flatMap shC
theorem fm_take {α : Type} {f : α → List Value} {m : Nat} (hf : ∀ x, (f x).length = m) : ∀ (l : List α) (k : Nat), (l.flatMap f).take (k * m) = (l.take k).flatMap f
  | [], k => by simp
  | a :: l, 0 => by simp
  | a :: l, k + 1 => by
    rw [List.take_succ_cons, List.flatMap_cons, List.flatMap_cons, Nat.add_mul, Nat.one_mul, List.take_append, hf, Nat.add_sub_cancel, fm_take hf l k, List.take_of_length_le (by rw [hf]; omega)]
theorem fm_drop {α : Type} {f : α → List Value} {m : Nat} (hf : ∀ x, (f x).length = m) : ∀ (l : List α) (k : Nat), (l.flatMap f).drop (k * m) = (l.drop k).flatMap f
  | [], k => by simp
  | a :: l, 0 => by simp
  | a :: l, k + 1 => by
    rw [List.drop_succ_cons, List.flatMap_cons, Nat.add_mul, Nat.one_mul, List.drop_append, hf, Nat.add_sub_cancel, fm_drop hf l k, List.drop_of_length_le (by rw [hf]; omega), List.nil_append]
theorem zip_take' : ∀ (l : List Sh) (cs : List Sv) (k : Nat), (l.zip cs).take k = (l.take k).zip (cs.take k)
  | [], _, k => by simp
  | _ :: _, [], k => by cases k <;> simp
  | a :: l, c :: cs, 0 => by simp
  | a :: l, c :: cs, k + 1 => by simp [zip_take' l cs k]
theorem zip_drop' : ∀ (l : List Sh) (cs : List Sv) (k : Nat), (l.zip cs).drop k = (l.drop k).zip (cs.drop k)
  | [], _, k => by simp
  | _ :: _, [], k => by cases k <;> simp
  | a :: l, c :: cs, 0 => by simp
  | a :: l, c :: cs, k + 1 => by simp [zip_drop' l cs k]
theorem rowC_take (l : List Sh) (cs : List Sv) (k : Nat) : (rowC l cs).take (k * 5) = rowC (l.take k) (cs.take k) := by
  unfold rowC
  rw [fm_take shC_len, zip_take']
theorem rowC_drop (l : List Sh) (cs : List Sv) (k : Nat) : (rowC l cs).drop (k * 5) = rowC (l.drop k) (cs.drop k) := by
  unfold rowC
  rw [fm_drop shC_len, zip_drop']
theorem rowC_one {w : World} {S : Nat → Prop} {l : List Sh} {cs : List Sv} (h : ShsIn w S l cs) : ∀ u ∈ rowC l cs, u.oneCell' = true := by
  intro u hu
  unfold rowC at hu
  obtain ⟨⟨s, c⟩, hx, hu⟩ := List.mem_flatMap.1 hu
  obtain ⟨i, hi⟩ := List.getElem?_of_mem hx
  rw [List.getElem?_zip_eq_some] at hi
  obtain ⟨a1, a2, a3, a4, a5, a6, rfl⟩ := (ShsIn.get l cs i s c h hi.1 hi.2).form
  simp [shC] at hu
  rcases hu with rfl | rfl | rfl | rfl | rfl <;> rfl
theorem take_drop1 {α : Type} (l : List α) (m k : Nat) : (l.take (m + k)).drop m = (l.drop m).take k := by
  rw [List.drop_take, Nat.add_sub_cancel_left]
theorem rowC_snoc {l : List Sh} {cs : List Sv} {s : Sh} {c : Sv} (h : cs.length = l.length) : rowC (l ++ [s]) (cs ++ [c]) = rowC l cs ++ shC (s, c) := by
  unfold rowC
  rw [List.zip_append (by omega), List.flatMap_append]
  simp
theorem Heap.rev4 {w0 w : World} {a b c d : Piece} {L : List Piece} (h : Heap w0 w (a :: b :: c :: d :: L)) : Heap w0 w (d :: c :: b :: a :: L) := by
  refine h.idx (fun k => if k = 0 then 3 else if k = 1 then 2 else if k = 2 then 1 else if k = 3 then 0 else k) (fun k hk => ?_) (fun x y hx hy e => ?_)
  · rcases (by omega : k = 0 ∨ k = 1 ∨ k = 2 ∨ k = 3 ∨ 4 ≤ k) with rfl | rfl | rfl | rfl | h8
    · rfl
    · rfl
    · rfl
    · rfl
    · obtain ⟨k', rfl⟩ : ∃ k', k = k' + 4 := ⟨k - 4, by omega⟩
      rw [if_neg (by omega), if_neg (by omega), if_neg (by omega), if_neg (by omega)]
      rfl
  · (try simp only at e); split at e <;> (try split at e) <;> (try split at e) <;> (try split at e) <;> (try split at e) <;> (try split at e) <;> (try split at e) <;> (try split at e) <;> omega
/-- A leaf of a row of pairs. -/
theorem Heap.leafMake {w0 w : World} {L : List Piece} {ps : List (Int × Int)} {vp : Value} {n : Nat} (hn : ps.length = n) (h : Heap w0 w (rowP 77 2 vp n (pairC ps) :: L)) : Heap w0 w (shP (.mk true false ps [] []) ⟨vp, .slice none 0 0, .slice none 0 0⟩ :: L) := by
  have h1 := ((h.rowNilF 2 1).rowNilF 33 5).shsNil
  subst hn
  exact Heap.shMake (tp := 77) (tk := 2) (tc := 33) (ks := []) (kids := []) (cs := []) rfl h1.rev4
theorem ShsIn.takeN {w : World} {S : Nat → Prop} {l : List Sh} {cs : List Sv} (h : ShsIn w S l cs) (hl : cs.length = l.length) (k : Nat) : ShsIn w S (l.take k) (cs.take k) :=
  ShsIn.of_get _ _ (by simp [hl]) (fun i s c h1 h2 => by
    rw [List.getElem?_take] at h1 h2
    split at h1
    · rename_i hk
      rw [if_pos hk] at h2
      exact ShsIn.get l cs i s c h h1 h2
    · simp at h1)
theorem ShsIn.dropN {w : World} {S : Nat → Prop} {l : List Sh} {cs : List Sv} (h : ShsIn w S l cs) (hl : cs.length = l.length) (k : Nat) : ShsIn w S (l.drop k) (cs.drop k) :=
  ShsIn.of_get _ _ (by simp [hl]) (fun i s c h1 h2 => by
    rw [List.getElem?_drop] at h1 h2
    exact ShsIn.get l cs _ s c h h1 h2)
/-- Two rows of trees, one above the other. -/
def fosP (row : List Sh) (cs : List Sv) (up : List Sh) (cu : List Sv) : Piece := ⟨fun w S => ShsIn w S row cs ∧ ShsIn w S up cu, fun h hf hn _ => ⟨ShsIn.keep hf hn row cs h.1, ShsIn.keep hf hn up cu h.2⟩⟩
theorem Heap.fosPush {w0 w : World} {L : List Piece} {row up : List Sh} {cs cu : List Sv} {ks : List Int} {vk vc : Value} {m k nk : Nat} (hk : ks.length = nk) (hr : ((row.drop m).take k).length = k) (hl : cs.length = row.length) (hu : cu.length = up.length)
    (h : Heap w0 w (rowP 2 1 vk nk (intC ks) :: rowP 33 5 vc k (rowC ((row.drop m).take k) ((cs.drop m).take k)) :: fosP row cs up cu :: L)) :
    Heap w0 w (fosP row cs (up ++ [.mk false false [] ks ((row.drop m).take k)]) (cu ++ [⟨.slice none 0 0, vk, vc⟩]) :: L) :=
  Heap.merge (m := [rowP 2 1 vk nk (intC ks), rowP 33 5 vc k (rowC ((row.drop m).take k) ((cs.drop m).take k)), fosP row cs up cu]) h (fun S hS => by
    obtain ⟨T0, a0, b0⟩ := hS.get 0 rfl
    obtain ⟨T1, a1, b1⟩ := hS.get 1 rfl
    obtain ⟨T2, a2, b2⟩ := hS.get 2 rfl
    have hrow := ShsIn.more (fun k hk => (b2 k hk).1) _ _ a2.1
    refine ⟨hrow, ShsIn.snoc (ShsIn.more (fun k hk => (b2 k hk).1) _ _ a2.2) hu ?_⟩
    unfold ShIn
    have c1 := rdP_in (S := S) (rowP_rd a0) (fun k hk => (b0 k hk).1)
    have c2 := rdP_in (S := S) (rowP_rd a1) (fun k hk => (b1 k hk).1)
    rw [← hk] at c1
    refine ⟨⟨RdV_nil w 2, fun g hg => by simp [Value.ownBlock] at hg⟩, c1, (cs.drop m).take k, ?_, ?_, ?_⟩
    · rw [List.length_take, List.length_drop, List.length_take, List.length_drop, hl]
    · rw [hr]; exact c2
    · exact (hrow.dropN hl m).takeN (by simp [hl]) k)
theorem Heap.fosStart {w0 w : World} {L : List Piece} {row : List Sh} {cs : List Sv} (h : Heap w0 w (shsP row cs :: L)) : Heap w0 w (fosP row cs [] [] :: L) :=
  Heap.merge (m := [shsP row cs]) h (fun S hS => by
    obtain ⟨T0, a0, b0⟩ := hS.get 0 rfl
    exact ⟨ShsIn.more (fun k hk => (b0 k hk).1) _ _ a0, by unfold ShsIn; trivial⟩)
theorem Heap.fosEnd {w0 w : World} {L : List Piece} {row up : List Sh} {cs cu : List Sv} (h : Heap w0 w (fosP row cs up cu :: L)) : Heap w0 w (shsP up cu :: L) :=
  Heap.merge (m := [fosP row cs up cu]) h (fun S hS => by
    obtain ⟨T0, a0, b0⟩ := hS.get 0 rfl
    exact ShsIn.more (fun k hk => (b0 k hk).1) _ _ a0.2)
end Go.Proofs.Ytkbnoceekileiaa
