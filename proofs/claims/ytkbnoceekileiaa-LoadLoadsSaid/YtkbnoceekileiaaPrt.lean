/- load.Parts: the groups, in memory. No condition but the bounds of size. -/
import Derived.Test.YtkbnoceekileiaaShp
import Derived.Deep.DeepCutAuto
import Derived.Deep.CutRange
namespace Go.Proofs.Ytkbnoceekileiaa
open Go Go.RowKit
set_option linter.unusedVariables false
set_option linter.unusedSimpArgs false
set_option maxRecDepth 100000
def partK (n b : Nat) : Nat := (n - 1) / b + 1
def partAt (n b i : Nat) : Nat := n / partK n b + if i < n % partK n b then 1 else 0
def partsN (n b : Nat) : List Nat := (List.range (partK n b)).map (partAt n b)
theorem partsN_len (n b : Nat) : (partsN n b).length = partK n b := by simp [partsN]
theorem partsN_next {n b i : Nat} (h : i < partK n b) : (partsN n b).take (i + 1) = (partsN n b).take i ++ [partAt n b i] := by
  rw [List.take_add_one]
  simp [partsN, h]
theorem Parts_h {w0 w : World} {L : List Piece} (h : Heap w0 w L) (n b : Nat) (hn : 1 ≤ n ∧ n ≤ 2097152) (hb : 1 ≤ b ∧ b ≤ 1000000) :
    Calls Try.prog 57 #[.int .i64 (n : Int), .int .i64 (b : Int)] w fun e w' => ∃ a c, e = .returned (.slice a (partK n b) c) ∧ Heap w0 w' (L ++ [rowP 3 1 (.slice a (partK n b) c) (partK n b) (intsC (partsN n b))]) := by
  have H1 := h.rowNilG 3 1
  have HH := Lib.hid H1
  clear h H1
  obtain ⟨k, hk⟩ : ∃ k, partK n b = k := ⟨_, rfl⟩
  have hkb : 1 ≤ k ∧ k ≤ 2097152 := by
    rw [← hk]
    unfold partK
    have h9 : (n - 1) / b ≤ n - 1 := Nat.div_le_self _ _
    generalize (n - 1) / b = d at h9 ⊢
    omega
  have hki : ((n : Int) - 1) / (b : Int) + 1 = (k : Int) := by
    rw [← hk]
    unfold partK
    rw [show ((n : Int) - 1) = ((n - 1 : Nat) : Int) by omega]
    simp
  obtain ⟨n1, n2⟩ := hn
  obtain ⟨b1, b2⟩ := hb
  obtain ⟨k1, k2⟩ := hkb
  have HN := Lib.hid (And.intro n1 n2)
  have HK := Lib.hid (And.intro hk (And.intro k1 k2))
  go_enter Try.func57, Try.ntmps57
  go_upto_region 5 with fail
  obtain ⟨i0, hi0, hz0, hz1, hz2⟩ := info_parts info_int
  have I0 := Lib.hid (And.intro hi0 (And.intro hz0 (And.intro hz1 hz2)))
  obtain ⟨dq, hdq⟩ : ∃ d : Nat, n / k = d := ⟨_, rfl⟩
  obtain ⟨dr, hdr⟩ : ∃ d : Nat, n % k = d := ⟨_, rfl⟩
  have hqi : (n : Int) / (k : Int) = (dq : Int) := by rw [← hdq]; simp
  have hri : (n : Int) % (k : Int) = (dr : Int) := by rw [← hdr]; simp
  have hdq2 : dq ≤ 2097152 := by rw [← hdq]; exact Nat.le_trans (Nat.div_le_self _ _) n2
  have HD := Lib.hid (And.intro hdq hdr)
  have hkz : (k : Int) ≠ 0 := by omega
  clear hi0 hz0 hz1 hz2 hk hki hdq hdr
  go_wp2_with fail
  go_loopw [6, 25] (fun s6 q wr => ∃ (i : Nat) (a : Option Addr) (c : Nat), q = .int .i64 (i : Nat) ∧ i ≤ k ∧ s6 = .slice a i c ∧ Hid (Heap w0 wr (L ++ [rowP 3 1 (.slice a i c) i (intsC ((partsN n b).take i))]))) (fun _ q _ => k - (intOf q).toNat)
  case atStart => exact ⟨0, none, 0, rfl, Nat.zero_le _, rfl, HH⟩
  case round =>
  clear HH
  obtain ⟨i, a, c, rfl, hik, rfl, HH⟩ := hrel
  by_cases hlt : i < k
  · have QQ := Lib.hid (HH.out.row L.length (t := 3) (sz := 1) (n := i) (v := .slice a i c) (us := intsC ((partsN n b).take i)) (by simp))
    have HL := Lib.hid (show i + 1 ≤ maxLen ∧ (i + 1) * 8 ≤ 140737488355328 by unfold maxLen; omega)
    by_cases hir : i < dr
    · have hir2 : (i : Int) < (dr : Int) := by omega
      have HP : Hid (partAt n b i = dq + 1) := Lib.hid (by unfold partAt; rw [HK.out.1, HD.out.1, HD.out.2, if_pos hir])
      go_wp2_with (at_builtin; refine wpList_append_typed _ rfl _ _ _ (by rfl) 3 i0 (.int .i64 0) 1 8 Try.underlying114 I0.out.1 I0.out.2.1 I0.out.2.2.1 I0.out.2.2.2 rfl (by decide) (.slice a i c) i (intsC ((partsN n b).take i)) (by rfl) (QQ.out.fr (F := nob) (by repeat (first | exact Fr.refl _ _ | apply Fr.drew | apply Fr.alloc)) (fun _ _ _ x => x)) _ 1 [.int .i64 ((dq : Int) + 1)] (by rfl) (RdV.block (cs := #[.int .i64 ((dq : Int) + 1)]) (t := 3) (by repeat (first | exact Blk.new' rfl _ _ | apply Blk.drew | apply Blk.alloc)) rfl (by decide)) (by simp [Value.oneCell']) HL.out.1 HL.out.2 ?_)
      intro a2 c2 w2 q2 grow2 hat2
      have G2 := HH.out.growRow L.length (t := 3) (sz := 1) (n := i) (v := .slice a i c) (us := intsC ((partsN n b).take i)) (by simp) (Fr.alloc (Fr.refl nob wr) (.cells #[.int .i64 ((dq : Int) + 1)] 3)) q2 grow2 (fun g hg => (hat2 g hg).imp_left (fun h => h.imp_right (fun h => by simpa using h)))
      have HX : Hid (Heap w0 w2 (L ++ [rowP 3 1 (.slice a2 (i + 1) c2) (i + 1) (intsC ((partsN n b).take (i + 1)))])) := Lib.hid (by
        rw [partsN_next (by rw [HK.out.1]; exact hlt), HP.out]
        rw [List.set_append_right _ _ (Nat.le_refl _), Nat.sub_self] at G2
        simpa [intsC] using G2)
      clear G2 q2 grow2 hat2 QQ
      go_wp2_with fail
      exact ⟨⟨i + 1, a2, c2, by go_num, by omega, rfl, HX⟩, by simp [intOf]; omega⟩
    · have hir2 : ¬ (i : Int) < (dr : Int) := by omega
      have HP : Hid (partAt n b i = dq) := Lib.hid (by unfold partAt; rw [HK.out.1, HD.out.1, HD.out.2, if_neg hir]; rfl)
      go_wp2_with (at_builtin; refine wpList_append_typed _ rfl _ _ _ (by rfl) 3 i0 (.int .i64 0) 1 8 Try.underlying114 I0.out.1 I0.out.2.1 I0.out.2.2.1 I0.out.2.2.2 rfl (by decide) (.slice a i c) i (intsC ((partsN n b).take i)) (by rfl) (QQ.out.fr (F := nob) (by repeat (first | exact Fr.refl _ _ | apply Fr.drew | apply Fr.alloc)) (fun _ _ _ x => x)) _ 1 [.int .i64 (dq : Int)] (by rfl) (RdV.block (cs := #[.int .i64 (dq : Int)]) (t := 3) (by repeat (first | exact Blk.new' rfl _ _ | apply Blk.drew | apply Blk.alloc)) rfl (by decide)) (by simp [Value.oneCell']) HL.out.1 HL.out.2 ?_)
      intro a2 c2 w2 q2 grow2 hat2
      have G2 := HH.out.growRow L.length (t := 3) (sz := 1) (n := i) (v := .slice a i c) (us := intsC ((partsN n b).take i)) (by simp) (Fr.alloc (Fr.refl nob wr) (.cells #[.int .i64 (dq : Int)] 3)) q2 grow2 (fun g hg => (hat2 g hg).imp_left (fun h => h.imp_right (fun h => by simpa using h)))
      have HX : Hid (Heap w0 w2 (L ++ [rowP 3 1 (.slice a2 (i + 1) c2) (i + 1) (intsC ((partsN n b).take (i + 1)))])) := Lib.hid (by
        rw [partsN_next (by rw [HK.out.1]; exact hlt), HP.out]
        rw [List.set_append_right _ _ (Nat.le_refl _), Nat.sub_self] at G2
        simpa [intsC] using G2)
      clear G2 q2 grow2 hat2 QQ
      go_wp2_with fail
      exact ⟨⟨i + 1, a2, c2, by go_num, by omega, rfl, HX⟩, by simp [intOf]; omega⟩
  · obtain rfl : i = k := by omega
    have HX : Hid (Heap w0 wr (L ++ [rowP 3 1 (.slice a i c) i (intsC (partsN n b))])) := Lib.hid (by
      have := HH.out
      rwa [List.take_of_length_le (by rw [partsN_len, HK.out.1]; exact Nat.le_refl _)] at this)
    clear HH
    go_wp2_with fail
    go_ret
    rw [HK.out.1]
    exact ⟨a, c, rfl, HX.out⟩
end Go.Proofs.Ytkbnoceekileiaa
