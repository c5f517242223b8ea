/- boscagelaw02.Put and Rising: their contracts. No condition but the bounds of size. -/
import Derived.Test.YtkbnoceekileiaaPrs
namespace Go.Proofs.Ytkbnoceekileiaa
open Go Go.RowKit
set_option linter.unusedVariables false
set_option linter.unusedSimpArgs false
set_option maxRecDepth 100000
theorem putG_cons (p : Int × Int) (l : List (Int × Int)) (k v : Int) (d : Bool) : putL.putG (p :: l) k v d = (if d = false ∧ k ≤ p.1 then [(k, v)] else []) ++ (if p.1 = k then [] else [p]) ++ putL.putG l k v (d || decide (k ≤ p.1)) := rfl
theorem pairC_snoc (l : List (Int × Int)) (p : Int × Int) : pairC (l ++ [p]) = pairC l ++ [.int .i64 p.1, .int .i64 p.2] := by simp [pairC]
theorem Put_h {w0 w : World} {L : List Piece} (h : Heap w0 w L) (i9 : Nat) {v : Value} {ps : List (Int × Int)} (hi9 : L[i9]? = some (rowP 77 2 v ps.length (pairC ps))) (k x : Int) (hl : ps.length ≤ 1000000) :
    Calls Try.prog 49 #[v, .int .i64 k, .int .i64 x] w fun e w' => ∃ a c, e = .returned (.slice a (putL ps k x).length c) ∧ Heap w0 w' (L ++ [rowP 77 2 (.slice a (putL ps k x).length c) (putL ps k x).length (pairC (putL ps k x))]) := by
  obtain ⟨va, vc, rfl, _, _⟩ := (h.row i9 hi9).form
  have HI9 := Lib.hid hi9
  have HH : Hid (([] : List (Int × Int)) ++ putL.putG (ps.drop 0) k x false = putL ps k x ∧ ([] : List (Int × Int)).length ≤ 2 * 0 ∧ Heap w0 w (L ++ [rowP 77 2 (.slice none 0 0) ([] : List (Int × Int)).length (pairC ([] : List (Int × Int)))])) := Lib.hid ⟨rfl, by simp, h.rowNilG 77 2⟩
  obtain ⟨i0, hi0, hz0, hz1, hz2⟩ := info_parts info_pair
  have I0 := Lib.hid (And.intro hi0 (And.intro hz0 (And.intro hz1 hz2)))
  clear h hi9 hi0 hz0 hz1 hz2
  go_enter Try.func49, Try.ntmps49
  go_wp2_with fail
  go_loopw [7, 8, 13] (fun s7 s8 q wr => ∃ (i : Nat) (acc : List (Int × Int)) (d : Bool) (a : Option Addr) (c : Nat), q = .int .i64 (i : Nat) ∧ i ≤ ps.length ∧ s7 = .slice a acc.length c ∧ s8 = .bool d ∧ Hid (acc ++ putL.putG (ps.drop i) k x d = putL ps k x ∧ acc.length ≤ 2 * i ∧ Heap w0 wr (L ++ [rowP 77 2 (.slice a acc.length c) acc.length (pairC acc)]))) (fun _ _ q _ => ps.length - (intOf q).toNat)
  case atStart => exact ⟨0, [], false, none, 0, rfl, Nat.zero_le _, rfl, rfl, HH⟩
  case round =>
  clear HH
  obtain ⟨i, acc, d, a, c, rfl, hi, rfl, rfl, HH⟩ := hrel
  by_cases hlt : i < ps.length
  · obtain ⟨hacc, hal, H0⟩ := HH.out
    clear HH
    obtain ⟨⟨p1, p2⟩, hp⟩ : ∃ p, ps[i]? = some p := ⟨_, List.getElem?_eq_getElem hlt⟩
    have R2 := (H0.row i9 (get_left HI9.out)).rdv
    obtain ⟨a1, rfl, _, _⟩ := R2.at (by omega)
    obtain ⟨c0, c1⟩ := R2.pair hp
    dsimp only at c0 c1
    rw [List.drop_eq_getElem_cons hlt, show ps[i] = (p1, p2) from (List.getElem?_eq_some_iff.1 hp).2, putG_cons] at hacc
    dsimp only at hacc
    have H1 := H0.alloc 77 #[.int .i64 p1, .int .i64 p2]
    obtain ⟨P, hP⟩ : ∃ r, wr.heap.size = r := ⟨_, rfl⟩
    obtain ⟨w1, hw1⟩ : ∃ z, wr.alloc (.cells #[.int .i64 p1, .int .i64 p2] 77) = z := ⟨_, rfl⟩
    rw [hP, hw1, List.append_assoc] at H1
    have HH1 : Hid (Heap w0 w1 (L ++ [rowP 77 2 (.slice a acc.length c) acc.length (pairC acc), blkP P 77 #[.int .i64 p1, .int .i64 p2]])) := Lib.hid H1
    have HWW := Lib.hid (And.intro hP hw1)
    have HAC := Lib.hid (And.intro hacc hal)
    clear H0 H1 R2 hp hP hw1 hacc hal
    go_upto_region 6 with fail
    rw [HWW.out.1, HWW.out.2]
    clear HWW c0 c1
    have B := HH1.out.blk (L.length + 1) (b := P) (t := 77) (c := #[.int .i64 p1, .int .i64 p2]) (by simp)
    have b0 := B.cell 0
    have b1 := B.cell 1
    go_cut [24] from 17 to 24 (fun s24 wx => ∃ g : Bool, s24 = .bool g ∧ wx = w1 ∧ Hid (g = true ↔ (d = false ∧ k ≤ p1)))
    case first =>
      cases d with
      | true =>
        go_wp2_with fail
        go_meet
        exact ⟨false, rfl, rfl, Lib.hid ⟨fun h => by simp at h, fun h => by simp at h⟩⟩
      | false =>
        by_cases hk : k ≤ p1
        · have HK := Lib.hid hk
          go_wp2_with fail
          go_meet
          exact ⟨true, rfl, rfl, Lib.hid ⟨fun _ => ⟨by first | trivial | rfl, HK.out⟩, fun _ => rfl⟩⟩
        · have HK := Lib.hid hk
          go_wp2_with fail
          go_meet
          exact ⟨false, rfl, rfl, Lib.hid ⟨fun h => by simp at h, fun h => by have := HK.out; have := h.2; omega⟩⟩
    case rest =>
    obtain ⟨g, rfl, hwx, HGG⟩ := hcut
    subst hwx
    rename World => w5
    rename ∀ (a : Act) (w : World), Code.wp Try.prog _ _ a w → _ => hK8
    refine hK8 _ _ ?_
    clear hK8
    have HL6 := Lib.hid (show acc.length + 1 ≤ maxLen ∧ (acc.length + 1) * 16 ≤ 140737488355328 by have := HAC.out.2; unfold maxLen; omega)
    go_cut [7, 8] from 24 to 30 (fun s7 s8 wx => ∃ (acc' : List (Int × Int)) (d' : Bool) (a' : Option Addr) (c' : Nat), s7 = .slice a' acc'.length c' ∧ s8 = .bool d' ∧ Hid (acc' = acc ++ (if d = false ∧ k ≤ p1 then [(k, x)] else []) ∧ d' = (d || decide (k ≤ p1)) ∧ acc'.length ≤ 2 * i + 1 ∧ Heap w0 wx (L ++ [rowP 77 2 (.slice a' acc'.length c') acc'.length (pairC acc'), blkP P 77 #[.int .i64 p1, .int .i64 p2]])))
    case first =>
      clear b0 b1 B
      cases g with
      | true =>
        have hgg := HGG.out.1 rfl
        have HGE : Hid (acc ++ [(k, x)] = acc ++ (if d = false ∧ k ≤ p1 then [(k, x)] else []) ∧ true = (d || decide (k ≤ p1)) ∧ (acc ++ [(k, x)]).length ≤ 2 * i + 1) := Lib.hid ⟨by rw [if_pos hgg], by rw [decide_eq_true hgg.2]; simp, by have := HAC.out.2; simp; omega⟩
        clear hgg HGG
        have QQ6 := Lib.hid (HH1.out.row L.length (t := 77) (sz := 2) (n := acc.length) (v := .slice a acc.length c) (us := pairC acc) (by simp))
        go_wp2_with (at_builtin; refine wpList_append_typed _ rfl _ _ _ (by rfl) 77 i0 (.agg #[.int .i64 0, .int .i64 0]) 2 16 Try.underlying30 I0.out.1 I0.out.2.1 I0.out.2.2.1 I0.out.2.2.2 rfl (by decide) (.slice a acc.length c) acc.length (pairC acc) (by rfl) (QQ6.out.fr (F := nob) (by repeat (first | exact Fr.refl _ _ | apply Fr.drew | apply Fr.alloc)) (fun _ _ _ x => x)) _ 1 [.int .i64 k, .int .i64 x] (by rfl) (RdV.block (cs := #[.int .i64 k, .int .i64 x]) (t := 77) (by repeat (first | exact Blk.new' rfl _ _ | apply Blk.drew | apply Blk.alloc)) rfl (by decide)) (by simp [Value.oneCell']) HL6.out.1 HL6.out.2 ?_)
        intro a6 c6 w6 q6 grow6 hat6
        have G6 := HH1.out.growRow L.length (t := 77) (sz := 2) (n := acc.length) (v := .slice a acc.length c) (us := pairC acc) (by simp) (Fr.alloc (Fr.refl nob w5) (.cells #[.int .i64 k, .int .i64 x] 77)) q6 grow6 (fun g hg => (hat6 g hg).imp_left (fun h => h.imp_right (fun h => by simpa using h)))
        have HX6 : Hid (Heap w0 w6 (L ++ [rowP 77 2 (.slice a6 (acc ++ [(k, x)]).length c6) (acc ++ [(k, x)]).length (pairC (acc ++ [(k, x)])), blkP P 77 #[.int .i64 p1, .int .i64 p2]])) := Lib.hid (by
          rw [List.set_append_right _ _ (Nat.le_refl _), Nat.sub_self] at G6
          rw [pairC_snoc, show (acc ++ [(k, x)]).length = acc.length + 1 by simp]
          exact G6)
        clear G6 q6 grow6 hat6 QQ6
        go_wp2_with fail
        go_meet
        exact ⟨acc ++ [(k, x)], true, a6, c6, by simp, rfl, Lib.hid ⟨HGE.out.1, HGE.out.2.1, HGE.out.2.2, HX6.out⟩⟩
      | false =>
        have HGE : Hid (acc = acc ++ (if d = false ∧ k ≤ p1 then [(k, x)] else []) ∧ d = (d || decide (k ≤ p1)) ∧ acc.length ≤ 2 * i + 1) := Lib.hid (by
          have hn : ¬ (d = false ∧ k ≤ p1) := fun h => by have := HGG.out.2 h; simp at this
          refine ⟨by rw [if_neg hn]; simp, ?_, by have := HAC.out.2; omega⟩
          cases d with
          | true => rfl
          | false => rw [decide_eq_false (fun h => hn ⟨rfl, h⟩)]; rfl)
        clear HGG
        go_wp2_with fail
        go_meet
        exact ⟨acc, d, a, c, rfl, rfl, Lib.hid ⟨HGE.out.1, HGE.out.2.1, HGE.out.2.2, HH1.out⟩⟩
    case rest =>
    obtain ⟨acc2, d2, a4, c4, rfl, rfl, HQ⟩ := hcut
    clear HH1 HGG b0 b1 B HL6
    rename World => w7
    obtain ⟨e1, e2, e3, H7⟩ := HQ.out
    have HH7 := Lib.hid H7
    have B := H7.blk (L.length + 1) (b := P) (t := 77) (c := #[.int .i64 p1, .int .i64 p2]) (by simp)
    have b0 : World.cell? w7 ⟨P, 0, none⟩ = some (.int .i64 p1) := B.cell 0
    have b1 : World.cell? w7 ⟨P, 1, none⟩ = some (.int .i64 p2) := B.cell 1
    have HE := Lib.hid (And.intro e1 (And.intro e2 e3))
    have HL8 := Lib.hid (show acc2.length + 1 ≤ maxLen ∧ (acc2.length + 1) * 16 ≤ 140737488355328 by unfold maxLen; omega)
    clear HQ H7 B e1 e2 e3
    by_cases hpk : p1 = k
    · have HNX : Hid (acc2 ++ putL.putG (ps.drop (i + 1)) k x d2 = putL ps k x ∧ acc2.length ≤ 2 * (i + 1) ∧ Heap w0 w7 (L ++ [rowP 77 2 (.slice a4 acc2.length c4) acc2.length (pairC acc2)])) := Lib.hid ⟨by
        have h1 := HAC.out.1
        rw [if_pos hpk, List.append_nil] at h1
        rw [HE.out.1, HE.out.2.1, List.append_assoc]
        exact h1, by have := HE.out.2.2; omega, by
        have := HH7.out
        rw [show L ++ [rowP 77 2 (.slice a4 acc2.length c4) acc2.length (pairC acc2), blkP P 77 #[.int .i64 p1, .int .i64 p2]] = (L ++ [rowP 77 2 (.slice a4 acc2.length c4) acc2.length (pairC acc2)]) ++ [blkP P 77 #[.int .i64 p1, .int .i64 p2]] by simp] at this
        exact this.first⟩
      subst hpk
      clear HH7 HAC HE
      go_wp2_with fail
      exact ⟨⟨i + 1, acc2, d2, a4, c4, by go_num, by omega, rfl, rfl, HNX⟩, by simp [intOf]; omega⟩
    · have hpb : (p1 == k) = false := beq_eq_false_iff_ne.2 hpk
      have HPK := Lib.hid hpk
      clear hpk
      have QQ8 := Lib.hid (HH7.out.row L.length (t := 77) (sz := 2) (n := acc2.length) (v := .slice a4 acc2.length c4) (us := pairC acc2) (by simp))
      go_wp2_with (at_builtin; refine wpList_append_typed _ rfl _ _ _ (by rfl) 77 i0 (.agg #[.int .i64 0, .int .i64 0]) 2 16 Try.underlying30 I0.out.1 I0.out.2.1 I0.out.2.2.1 I0.out.2.2.2 rfl (by decide) (.slice a4 acc2.length c4) acc2.length (pairC acc2) (by rfl) (QQ8.out.fr (F := nob) (by repeat (first | exact Fr.refl _ _ | apply Fr.drew | apply Fr.alloc)) (fun _ _ _ x => x)) _ 1 [.int .i64 p1, .int .i64 p2] (by rfl) (RdV.block (cs := #[.int .i64 p1, .int .i64 p2]) (t := 77) (by repeat (first | exact Blk.new' rfl _ _ | apply Blk.drew | apply Blk.alloc)) rfl (by decide)) (by simp [Value.oneCell']) HL8.out.1 HL8.out.2 ?_)
      intro a8 c8 w8 q8 grow8 hat8
      have G8 := HH7.out.growRow L.length (t := 77) (sz := 2) (n := acc2.length) (v := .slice a4 acc2.length c4) (us := pairC acc2) (by simp) (Fr.alloc (Fr.refl nob w7) (.cells #[.int .i64 p1, .int .i64 p2] 77)) q8 grow8 (fun g hg => (hat8 g hg).imp_left (fun h => h.imp_right (fun h => by simpa using h)))
      have HX8 : Hid (Heap w0 w8 (L ++ [rowP 77 2 (.slice a8 (acc2 ++ [(p1, p2)]).length c8) (acc2 ++ [(p1, p2)]).length (pairC (acc2 ++ [(p1, p2)])), blkP P 77 #[.int .i64 p1, .int .i64 p2]])) := Lib.hid (by
        rw [List.set_append_right _ _ (Nat.le_refl _), Nat.sub_self] at G8
        rw [pairC_snoc, show (acc2 ++ [(p1, p2)]).length = acc2.length + 1 by simp]
        exact G8)
      clear G8 q8 grow8 hat8 QQ8
      have HNX : Hid ((acc2 ++ [(p1, p2)]) ++ putL.putG (ps.drop (i + 1)) k x d2 = putL ps k x ∧ (acc2 ++ [(p1, p2)]).length ≤ 2 * (i + 1) ∧ Heap w0 w8 (L ++ [rowP 77 2 (.slice a8 (acc2 ++ [(p1, p2)]).length c8) (acc2 ++ [(p1, p2)]).length (pairC (acc2 ++ [(p1, p2)]))])) := Lib.hid ⟨by
        have h1 := HAC.out.1
        rw [if_neg HPK.out] at h1
        rw [HE.out.1, HE.out.2.1, List.append_assoc, List.append_assoc]
        rw [List.append_assoc] at h1
        exact h1, by have := HE.out.2.2; simp; omega, by
        have := HX8.out
        rw [show L ++ [rowP 77 2 (.slice a8 (acc2 ++ [(p1, p2)]).length c8) (acc2 ++ [(p1, p2)]).length (pairC (acc2 ++ [(p1, p2)])), blkP P 77 #[.int .i64 p1, .int .i64 p2]] = (L ++ [rowP 77 2 (.slice a8 (acc2 ++ [(p1, p2)]).length c8) (acc2 ++ [(p1, p2)]).length (pairC (acc2 ++ [(p1, p2)]))]) ++ [blkP P 77 #[.int .i64 p1, .int .i64 p2]] by simp] at this
        exact this.first⟩
      clear HX8 HH7 HAC HE
      go_wp2_with fail
      exact ⟨⟨i + 1, acc2 ++ [(p1, p2)], d2, a8, c8, by go_num, by omega, by simp, rfl, HNX⟩, by simp [intOf]; omega⟩
  · obtain rfl : i = ps.length := by omega
    obtain ⟨hacc, hal, H0⟩ := HH.out
    have HH0 := Lib.hid H0
    rw [List.drop_eq_nil_of_le (Nat.le_refl _)] at hacc
    have HL9 := Lib.hid (show acc.length + 1 ≤ maxLen ∧ (acc.length + 1) * 16 ≤ 140737488355328 by unfold maxLen; omega)
    clear HH H0
    cases d with
    | true =>
      have HE : Hid (acc = putL ps k x) := Lib.hid (by rw [← hacc]; simp [putL.putG])
      clear hacc
      go_wp2_with fail
      go_ret
      rw [← HE.out]
      exact ⟨a, c, rfl, HH0.out⟩
    | false =>
      have HE : Hid (acc ++ [(k, x)] = putL ps k x) := Lib.hid (by rw [← hacc]; simp [putL.putG])
      clear hacc
      have QQ9 := Lib.hid (HH0.out.row L.length (t := 77) (sz := 2) (n := acc.length) (v := .slice a acc.length c) (us := pairC acc) (by simp))
      go_wp2_with (at_builtin; refine wpList_append_typed _ rfl _ _ _ (by rfl) 77 i0 (.agg #[.int .i64 0, .int .i64 0]) 2 16 Try.underlying30 I0.out.1 I0.out.2.1 I0.out.2.2.1 I0.out.2.2.2 rfl (by decide) (.slice a acc.length c) acc.length (pairC acc) (by rfl) (QQ9.out.fr (F := nob) (by repeat (first | exact Fr.refl _ _ | apply Fr.drew | apply Fr.alloc)) (fun _ _ _ x => x)) _ 1 [.int .i64 k, .int .i64 x] (by rfl) (RdV.block (cs := #[.int .i64 k, .int .i64 x]) (t := 77) (by repeat (first | exact Blk.new' rfl _ _ | apply Blk.drew | apply Blk.alloc)) rfl (by decide)) (by simp [Value.oneCell']) HL9.out.1 HL9.out.2 ?_)
      intro a9 c9 w9 q9 grow9 hat9
      have G9 := HH0.out.growRow L.length (t := 77) (sz := 2) (n := acc.length) (v := .slice a acc.length c) (us := pairC acc) (by simp) (Fr.alloc (Fr.refl nob wr) (.cells #[.int .i64 k, .int .i64 x] 77)) q9 grow9 (fun g hg => (hat9 g hg).imp_left (fun h => h.imp_right (fun h => by simpa using h)))
      have HX9 : Hid (Heap w0 w9 (L ++ [rowP 77 2 (.slice a9 (acc ++ [(k, x)]).length c9) (acc ++ [(k, x)]).length (pairC (acc ++ [(k, x)]))])) := Lib.hid (by
        rw [List.set_append_right _ _ (Nat.le_refl _), Nat.sub_self] at G9
        rw [pairC_snoc, show (acc ++ [(k, x)]).length = acc.length + 1 by simp]
        exact G9)
      clear G9 q9 grow9 hat9 QQ9
      go_wp2_with fail
      go_ret
      rw [← HE.out]
      exact ⟨a9, c9, by simp, HX9.out⟩
end Go.Proofs.Ytkbnoceekileiaa
