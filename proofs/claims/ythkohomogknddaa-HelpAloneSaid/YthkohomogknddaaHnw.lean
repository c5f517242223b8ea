/- Nodes: a world with some inner nodes in it. No condition but how many. -/
import Derived.Test.YthkohomogknddaaHnd
namespace Go.Proofs.Ythkohomogknddaa
open Go Go.RowKit
set_option linter.unusedVariables false
set_option linter.unusedSimpArgs false
set_option maxRecDepth 100000
def tolds (k : Nat) : List Int := (List.range k).map told
theorem tolds_len (k : Nat) : (tolds k).length = k := by simp [tolds]
theorem tolds_snoc (k : Nat) : intC (tolds k) ++ [.int .i64 (told k)] = intC (tolds (k + 1)) := by simp [intC, tolds, List.range_succ]
section
variable {w0 w : World}
set_option maxHeartbeats 4000000 in
theorem Nodes_h (h : Heap w0 w []) (t n : Nat) (ht : 1 ≤ t ∧ t ≤ 64) (hn : n ≤ 5) :
    Calls Try.prog 52 #[.int .i64 (t : Int), .int .i64 (n : Int)] w fun e w' => ∃ (c : Wc) (a : Option Addr) (cp : Nat), c.entry = entryR ∧ e = .returned (.tuple #[.pointer (some ⟨c.wb, 0, none⟩), .slice a n cp]) ∧ Heap w0 w' (wdL c (ndW t n) ++ [rowP 29 1 (.slice a n cp) n (intC (tolds n))]) := by
  have CS := Lib.hid (New_wd h 2 3 (t : Int) 60 40 (by omega) (by omega) (by omega) (by omega) (by omega))
  obtain ⟨i0, hi0, hz0, hz1, hz2⟩ := info_parts info_ref
  have I0 := Lib.hid (And.intro hi0 (And.intro hz0 (And.intro hz1 hz2)))
  clear hi0 hz0 hz1 hz2 h
  go_enter Try.func52, Try.ntmps52
  go_wp2_with fail
  refine CS.out.mono ?_
  rintro e w1 ⟨c, _, _, hce, rfl, H⟩
  have H1 : Heap w0 w1 (wdL c (ndW t 0) ++ [rowP 29 1 (.slice none 0 0) 0 (intC (tolds 0))]) := by
    have := H.rowNil 29 1
    rw [List.nil_append, Int.toNat_natCast] at this
    exact this
  have HH := Lib.hid H1
  clear CS H H1
  go_wp2_with fail
  go_loopw [8, 18] (fun s8 i wr => ∃ (k : Nat) (a : Option Addr) (cp : Nat), s8 = .slice a k cp ∧ i = .int .i64 (k : Nat) ∧ k ≤ n ∧ Hid (Heap w0 wr (wdL c (ndW t k) ++ [rowP 29 1 (.slice a k cp) k (intC (tolds k))]))) (fun _ i _ => n - (intOf i).toNat)
  case atStart => exact ⟨0, none, 0, rfl, rfl, Nat.zero_le _, HH⟩
  case round =>
    clear HH
    obtain ⟨k, a, cp, rfl, rfl, hk, HH⟩ := hrel
    by_cases hlt : k < n
    · obtain ⟨v0, v1, v2, v3, v4, v5⟩ := wdL_cells HH.out
      have HB := (HH.out.alloc 2 #[.int .i64 5]).alloc 29 #[.int .i64 (200 + 10 * (k : Int)), .int .i64 (201 + 10 * (k : Int))]
      rw [show (wr.alloc (.cells #[.int .i64 5] 2)).heap.size = wr.heap.size + 1 from by simp] at HB
      have HB : Heap w0 ((wr.alloc (.cells #[.int .i64 5] 2)).alloc (.cells #[.int .i64 (200 + 10 * (k : Int)), .int .i64 (201 + 10 * (k : Int))] 29)) (wdL c (ndW t k) ++ [rowP 29 1 (.slice a k cp) k (intC (tolds k)), blkP wr.heap.size 2 #[.int .i64 5], blkP (wr.heap.size + 1) 29 #[.int .i64 (200 + 10 * (k : Int)), .int .i64 (201 + 10 * (k : Int))]]) := by simpa [List.append_assoc] using HB
      have C := Alloc_h HB 1 rfl (nkS_more (by rw [fresh_len]; omega)) (nkNd k) ⟨by simp [nkNd], by simp [nkNd], by simp [nkNd]⟩ nilS (.slice (some ⟨wr.heap.size, 0, none⟩) 1 1) (.slice (some ⟨wr.heap.size + 1, 0, none⟩) 2 2) (fun x q hz => ⟨RdV_nil _ _, RdV.block (cs := #[.int .i64 5]) (t := 2) (g := wr.heap.size) (m := 1) (sz := 1) (hz.blk 5 rfl) rfl (by decide), RdV.block (cs := #[.int .i64 (200 + 10 * (k : Int)), .int .i64 (201 + 10 * (k : Int))]) (t := 29) (g := wr.heap.size + 1) (m := 2) (sz := 1) (hz.blk 6 rfl) rfl (by decide)⟩)
      rw [show (ndW t k).ar = nkS (fresh k) from rfl, nk_alloc (by omega)] at C
      unfold ndV nkNd nilS at C
      have CC := Lib.hid C
      clear C HB
      go_wp2_with fail
      refine CC.out.mono ?_
      rintro e w4 ⟨rfl, H3⟩
      have H4 : Heap w0 w4 ((wdL c (ndW t (k + 1)) ++ [rowP 29 1 (.slice a k cp) k (intC (tolds k))]) ++ [blkP wr.heap.size 2 #[.int .i64 5], blkP (wr.heap.size + 1) 29 #[.int .i64 (200 + 10 * (k : Int)), .int .i64 (201 + 10 * (k : Int))]]) := H3
      have H4 := H4.first
      have HX := Lib.hid H4
      have QQ := Lib.hid (H4.row 4 (t := 29) (sz := 1) (n := k) (v := .slice a k cp) (us := intC (tolds k)) rfl)
      have hlm' : k + 1 ≤ maxLen := by unfold maxLen; omega
      have hlb2 : (k + 1) * 8 ≤ 140737488355328 := by omega
      have HL := Lib.hid (And.intro hlm' hlb2)
      clear CC H3 H4 hlm' hlb2 v0 v1 v2 v3 v4 v5 HH
      go_wp2_with (at_builtin; refine wpList_append_typed _ rfl _ _ _ (by rfl) 29 i0 (.int .i64 0) 1 8 Try.underlying50 I0.out.1 I0.out.2.1 I0.out.2.2.1 I0.out.2.2.2 rfl (by decide) (.slice a k cp) k (intC (tolds k)) (by rfl) (QQ.out.fr (F := nob) (by repeat (first | exact Fr.refl _ _ | apply Fr.drew | apply Fr.alloc)) (fun _ _ _ x => x)) _ 1 [.int .i64 (told k)] (by rfl) (RdV.block (cs := #[.int .i64 (told k)]) (t := 29) (by repeat (first | exact Blk.new' rfl _ _ | apply Blk.drew | apply Blk.alloc)) rfl (by decide)) (by simp [Value.oneCell']) HL.out.1 HL.out.2 ?_)
      intro a' c' w5 q' grow hat'
      have G := HX.out.growRow 4 (t := 29) (sz := 1) (n := k) (v := .slice a k cp) (us := intC (tolds k)) rfl (Fr.alloc (Fr.refl nob w4) (.cells #[.int .i64 (told k)] 29)) q' grow (fun g hg => (hat' g hg).imp_left (fun h => h.imp_right (fun h => by simpa using h)))
      rw [tolds_snoc] at G
      have HH5 : Hid (Heap w0 w5 (wdL c (ndW t (k + 1)) ++ [rowP 29 1 (.slice a' (k + 1) c') (k + 1) (intC (tolds (k + 1)))])) := Lib.hid G
      clear G q' grow hat' QQ HX HL
      go_wp2_with fail
      exact ⟨⟨k + 1, a', c', rfl, by go_num, by omega, HH5⟩, by simp [intOf]; omega⟩
    · have hkn : k = n := by omega
      subst hkn
      go_wp2_with fail
      refine bodyPost_ret (v := .tuple #[.pointer (some ⟨c.wb, 0, none⟩), .slice a k cp]) (by simp [results, Try.results52, go_sem]) rfl ?_
      exact ⟨c, a, cp, hce, rfl, HH.out⟩
end
end Go.Proofs.Ythkohomogknddaa
