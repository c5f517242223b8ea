/- WorldMakes. No condition. -/
import Derived.Test.YthkohomogknddaaMkp
import Derived.Test.YthkohomogknddaaUse
namespace Go.Proofs.Ythkohomogknddaa
open Go Go.RowKit
set_option linter.unusedVariables false
set_option linter.unusedSimpArgs false
set_option maxRecDepth 100000
set_option maxHeartbeats 8000000 in
theorem WorldMakes_walk (most : Int) (hmost : 0 ≤ most ∧ most ≤ 255) (many : Int) (hmany : 0 ≤ many ∧ many ≤ 255) (w : World) :
    Calls Try.prog 7 #[.int .u8 most, .int .u8 many] w fun e w' => e = .returned (.bool true) ∧ Below w.heap.size w w' := by
  obtain ⟨m0, m1⟩ := hmost
  obtain ⟨n0, n1⟩ := hmany
  obtain ⟨room, hq⟩ : ∃ q : Nat, most % 20 = (q : Int) := ⟨(most % 20).toNat, by omega⟩
  obtain ⟨n, hm⟩ : ∃ m : Nat, many % 30 = (m : Int) := ⟨(many % 30).toNat, by omega⟩
  have hr20 : room < 20 := by omega
  have hn30 : n < 30 := by omega
  obtain ⟨i0, hi0, hz0, hz1, hz2⟩ := info_parts info_ref
  have I0 := Lib.hid (And.intro hi0 (And.intro hz0 (And.intro hz1 hz2)))
  clear hi0 hz0 hz1 hz2
  go_enter Try.func7, Try.ntmps7
  go_wp2_with fail
  refine (Awake_calls w).mono ?_
  rintro e w1 ⟨rfl, F1⟩
  have CS := Lib.hid (some_h ((Heap.start w).go F1) 1 (2 + (room : Int)) (by omega) (by omega))
  clear F1
  have HQ := Lib.hid hq
  have HM := Lib.hid hm
  go_wp2_with fail
  try simp only [hq]
  refine CS.out.mono ?_
  rintro e w2 ⟨c, _, rfl, H⟩
  have H0 : Heap w w2 (wdL c (mkW room 0 0)) := H
  clear CS H
  have HH := Lib.hid H0
  clear H0
  go_wp2_with fail
  try simp only [hm]
  obtain ⟨l1, r1, r2⟩ := runs_makes room (by omega) n 0 []
  rw [List.nil_append, ← List.range_eq_range', Nat.zero_add, show min 0 room = 0 from by omega] at r1
  have hvl : ((List.range n).map (got room)).length = n := by simp
  have H1 := HH.out.alloc 3 #[.int .i64 (n : Nat)]
  generalize hnb : w2.heap.size = nb at *
  generalize hw3 : w2.alloc (.cells #[.int .i64 (n : Nat)] 3) = w3 at *
  have y0 : w3.cell? ⟨nb, 0, none⟩ = some (.int .i64 (n : Nat)) := (H1.blk 4 (b := nb) (t := 3) (c := #[.int .i64 (n : Nat)]) rfl).cell 0
  have CS := Start_alone (me := 0) (f := 36) (first := #[]) (cap := #[.pointer (some ⟨nb, 0, none⟩)]) (p := makesP n 0 []) (H := fun _ => True) H1 (fun M b tb hM => wmk_does (wdPl_is c _ _ tb) hM (by omega) 4 (fun s T => rfl)) wmk_enters (mkW_ok (N := 60) (Nat.le_refl _) (by omega) (Nat.le_refl _) (by omega)) (by omega) (ev0_is _) r1 (by omega) (by rw [hvl]; omega) (fun _ _ _ _ => trivial)
  rw [r2, hvl] at CS
  have CS := Lib.hid CS
  have hmf : ∀ (fn : Fn) (first cap : Array Value) (z : World), (Instr.makeFunc fn first cap).run Try.prog z = .ok (.func fn first cap) z := fun _ _ _ _ => rfl
  generalize hk : min n room = k at *
  have HK := Lib.hid hk
  clear r1 r2 hvl H1 HH hnb hw3 hk
  refine CS.out.mono ?_
  rintro e w4 ⟨tb, rfl, CA⟩
  clear CS
  go_wp2_with fail
  refine CA.out.mono ?_
  rintro e w5 ⟨a2, cp2, rfl, H5, ok5, _⟩
  clear CA ok5 y0
  have H5 : Heap w w5 (wdL c (mkW room k 0) ++ [blkP nb 3 #[.int .i64 (n : Nat)], rowP 2 1 (.slice a2 n cp2) n (gotV room n)]) := H5
  have y0 : w5.cell? ⟨nb, 0, none⟩ = some (.int .i64 (n : Nat)) := (H5.blk 4 (b := nb) (t := 3) (c := #[.int .i64 (n : Nat)]) rfl).cell 0
  obtain ⟨v0, v1, v2, v3, v4, v5⟩ := wdL_cells H5
  have HH := Lib.hid H5
  generalize hsv : ((max n 1 : Nat) : Int) = sv at *
  have HSV : Hid (sv = max (n : Int) 1) := Lib.hid (by omega)
  clear H5 hsv hmf
  go_upto_region 7 with fail
  simp only [hq]
  go_cut [60] (fun s60 wx => s60 = .bool false ∧ ∃ k, wx = w5.drewN k)
  case first =>
    rcases (by omega : (n : Int) < 1 ∨ 1 ≤ (n : Int)) with hc1 | hc1
    · rcases (by omega : (n : Int) < (room : Int) ∨ (room : Int) ≤ (n : Int)) with hc2 | hc2
      · have hsv : sv = 1 := by have := HSV.out; omega
        have hb1 : ((n : Int) < 1) = True := by simp; omega
        have hb2 : ((n : Int) < (room : Int)) = True := by simp; omega
        have HUS : Hid ((2 : Int) + ((k - 0 : Nat) : Int) = 2 + (n : Int)) := Lib.hid (by have := HK.out; omega)
        have hw1 : IntKind.i64.wrap (2 + (n : Int)) = 2 + (n : Int) := by rw [IntKind.wrap_i64, Int.emod_eq_of_lt (by omega) (by omega)]; omega
        subst hsv
        clear hc1 hc2
        go_quiet ((go_at_call 33; exact Calls.quiet_of_same ((Used_h (HH.out.drewN _) 1 rfl).mono (R' := fun e w' => e = .returned (.int .i64 (2 + (n : Int))) ∧ w' = _) (fun e w' h => ⟨by have e1 := h.1; have e2 : (mkW room k 0).ar.used = _ := HUS.out; rw [e2] at e1; exact e1, h.2⟩))))
        clear hw1
        go_wp2_with fail
        go_meet
        exact ⟨rfl, _, rfl⟩
      · have hsv : sv = 1 := by have := HSV.out; omega
        have hb1 : ((n : Int) < 1) = True := by simp; omega
        have hb2 : ((n : Int) < (room : Int)) = False := by simp; omega
        have HUS : Hid ((2 : Int) + ((k - 0 : Nat) : Int) = 2 + (room : Int)) := Lib.hid (by have := HK.out; omega)
        have hw1 : IntKind.i64.wrap (2 + (room : Int)) = 2 + (room : Int) := by rw [IntKind.wrap_i64, Int.emod_eq_of_lt (by omega) (by omega)]; omega
        subst hsv
        clear hc1 hc2
        go_quiet ((go_at_call 33; exact Calls.quiet_of_same ((Used_h (HH.out.drewN _) 1 rfl).mono (R' := fun e w' => e = .returned (.int .i64 (2 + (room : Int))) ∧ w' = _) (fun e w' h => ⟨by have e1 := h.1; have e2 : (mkW room k 0).ar.used = _ := HUS.out; rw [e2] at e1; exact e1, h.2⟩))))
        clear hw1
        go_wp2_with fail
        go_meet
        exact ⟨rfl, _, rfl⟩
    · rcases (by omega : (n : Int) < (room : Int) ∨ (room : Int) ≤ (n : Int)) with hc2 | hc2
      · have hsv : sv = (n : Int) := by have := HSV.out; omega
        have hb1 : ((n : Int) < 1) = False := by simp; omega
        have hb2 : ((n : Int) < (room : Int)) = True := by simp; omega
        have HUS : Hid ((2 : Int) + ((k - 0 : Nat) : Int) = 2 + (n : Int)) := Lib.hid (by have := HK.out; omega)
        have hw1 : IntKind.i64.wrap (2 + (n : Int)) = 2 + (n : Int) := by rw [IntKind.wrap_i64, Int.emod_eq_of_lt (by omega) (by omega)]; omega
        subst hsv
        clear hc1 hc2
        go_quiet ((go_at_call 33; exact Calls.quiet_of_same ((Used_h (HH.out.drewN _) 1 rfl).mono (R' := fun e w' => e = .returned (.int .i64 (2 + (n : Int))) ∧ w' = _) (fun e w' h => ⟨by have e1 := h.1; have e2 : (mkW room k 0).ar.used = _ := HUS.out; rw [e2] at e1; exact e1, h.2⟩))))
        clear hw1
        go_wp2_with fail
        go_meet
        exact ⟨rfl, _, rfl⟩
      · have hsv : sv = (n : Int) := by have := HSV.out; omega
        have hb1 : ((n : Int) < 1) = False := by simp; omega
        have hb2 : ((n : Int) < (room : Int)) = False := by simp; omega
        have HUS : Hid ((2 : Int) + ((k - 0 : Nat) : Int) = 2 + (room : Int)) := Lib.hid (by have := HK.out; omega)
        have hw1 : IntKind.i64.wrap (2 + (room : Int)) = 2 + (room : Int) := by rw [IntKind.wrap_i64, Int.emod_eq_of_lt (by omega) (by omega)]; omega
        subst hsv
        clear hc1 hc2
        go_quiet ((go_at_call 33; exact Calls.quiet_of_same ((Used_h (HH.out.drewN _) 1 rfl).mono (R' := fun e w' => e = .returned (.int .i64 (2 + (room : Int))) ∧ w' = _) (fun e w' h => ⟨by have e1 := h.1; have e2 : (mkW room k 0).ar.used = _ := HUS.out; rw [e2] at e1; exact e1, h.2⟩))))
        clear hw1
        go_wp2_with fail
        go_meet
        exact ⟨rfl, _, rfl⟩
  case rest =>
    obtain ⟨rfl, nd, rfl⟩ := hcut
    have H6 := HH.out.drewN nd
    generalize w5.drewN nd = w6 at *
    have H7 := (H6.alloc 50 #[.slice none 0 0]).rowNil 29 1
    rw [List.append_assoc, List.append_assoc] at H7
    generalize hlb : w6.heap.size = lb at *
    generalize hw7 : w6.alloc (.cells #[.slice none 0 0] 50) = w7 at *
    have HH2 : Hid (∃ ta tc, Heap w w7 (wdL c (mkW room k 0) ++ [blkP nb 3 #[.int .i64 (n : Nat)], rowP 2 1 (.slice a2 n cp2) n (gotV room n), blkP lb 50 #[.slice ta 0 tc], rowP 29 1 (.slice ta 0 tc) 0 (gotV room 0)])) := Lib.hid ⟨none, 0, H7⟩
    clear H6 H7 HH y0 v0 v1 v2 v3 v4 v5 HSV
    go_wp2_with fail
    go_loopw [63] (fun i wr => ∃ j : Nat, i = .int .i64 (j : Nat) ∧ j ≤ n ∧ Hid (∃ ta tc, Heap w wr (wdL c (mkW room k 0) ++ [blkP nb 3 #[.int .i64 (n : Nat)], rowP 2 1 (.slice a2 n cp2) n (gotV room n), blkP lb 50 #[.slice ta j tc], rowP 29 1 (.slice ta j tc) j (gotV room j)]))) (fun i _ => n - (intOf i).toNat)
    case atStart => exact ⟨0, rfl, Nat.zero_le _, HH2⟩
    case round =>
      clear HH2
      obtain ⟨j, rfl, hj, HE⟩ := hrel
      obtain ⟨ta, tc, H0⟩ := HE.out
      by_cases hlt : j < n
      · obtain ⟨v0, v1, v2, v3, v4, v5⟩ := wdL_cells H0
        obtain ⟨g9, ee, hcc, hat⟩ := (H0.row 5 (t := 2) (sz := 1) (n := n) (v := .slice a2 n cp2) (us := gotV room n) rfl).rdv.at (by omega)
        subst ee
        have y1 := hat j _ (gotV_get hlt)
        have GS : Hid (gotV room j ++ [.int .i64 (got room j)] = gotV room (j + 1)) := Lib.hid (gotV_snoc room j)
        by_cases hjr : j < room
        · have hgt : got room j = told j := if_pos hjr
          rw [hgt] at y1 GS
          have hne : (told j != 0) = true := by have := (told_ne j (by omega)).1; simpa using this
          have hne0 := (told_ne j (by omega)).1
          have hjk : j < k := by have := HK.out; omega
          have hb : decide (j % 2 = 1) = ((j : Int) % 2 == 1) := by rw [Bool.eq_iff_iff]; simp; omega
          have hlk : lookAr (told j) (mkW room k 0).ar = (mkNd j, (mkW room k 0).ar) := mkS_look hjk (by have := HK.out; omega)
          have okj := mkW_ok (room := room) (k := k) (j := 0) (N := 60) (Nat.zero_le _) (by have := HK.out; omega) (Nat.le_refl _) (by omega)
          have CLk := Look_h H0 1 rfl (okj.ar.ok (by omega)) okj.ar.nds (told j)
          have CL := Lib.hid (CLk.mono (R' := fun e w' => ∃ vp vk vn, e = .returned (.agg #[.bool false, .bool ((j : Int) % 2 == 1), vp, vk, vn]) ∧ Heap w w' ((wdL c (mkW room k 0) ++ [blkP nb 3 #[.int .i64 (n : Nat)], rowP 2 1 (.slice (some g9) n cp2) n (gotV room n), blkP lb 50 #[.slice ta j tc], rowP 29 1 (.slice ta j tc) j (gotV room j)]) ++ ndL (mkNd j) vp vk vn)) (fun e w' h => by
            obtain ⟨vp, vk, vn, h1, h2⟩ := h
            rw [hlk] at h1 h2
            change e = .returned (.agg #[.bool false, .bool (decide (j % 2 = 1)), vp, vk, vn]) at h1
            rw [hb] at h1
            exact ⟨vp, vk, vn, h1, h2⟩))
          have hfd : ∀ (vp vk vn : Value) (w : World), (Instr.field 58 (.agg #[.bool false, .bool ((j : Int) % 2 == 1), vp, vk, vn]) 1).run Try.prog w = .ok (.bool ((j : Int) % 2 == 1)) w := fun _ _ _ _ => by kernel_rfl
          have hjr' : (j : Int) < (room : Int) := by omega
          clear hat hgt hb hlk okj CLk H0 hjk hjr
          go_wp2_with fail
          refine CL.out.mono ?_
          rintro e w9 ⟨vp, vk, vn, rfl, H9⟩
          have H9 := H9.first
          clear CL y1
          have B4 := H9.blk 6 (b := lb) (t := 50) (c := #[.slice ta j tc]) rfl
          have y4 : w9.cell? ⟨lb, 0, none⟩ = some (.slice ta j tc) := B4.cell 0
          have HH := Lib.hid H9
          have QQ := Lib.hid (H9.row 7 (t := 29) (sz := 1) (n := j) (v := .slice ta j tc) (us := gotV room j) rfl)
          have hlm' : j + 1 ≤ maxLen := by unfold maxLen; omega
          have hlb2 : (j + 1) * 8 ≤ 140737488355328 := by omega
          have HL := Lib.hid (And.intro hlm' hlb2)
          clear H9 B4 v0 v1 v2 v3 v4 v5 hlm' hlb2
          go_wp2_with (at_builtin; refine wpList_append_typed _ rfl _ _ _ (by rfl) 29 i0 (.int .i64 0) 1 8 Try.underlying50 I0.out.1 I0.out.2.1 I0.out.2.2.1 I0.out.2.2.2 rfl (by decide) (.slice ta j tc) j (gotV room j) (by rfl) (QQ.out.fr (F := nob) (by repeat (first | exact Fr.refl _ _ | apply Fr.drew | apply Fr.alloc)) (fun _ _ _ x => x)) _ 1 [.int .i64 (told j)] (by rfl) (RdV.block (cs := #[.int .i64 (told j)]) (t := 29) (by repeat (first | exact Blk.new' rfl _ _ | apply Blk.drew | apply Blk.alloc)) rfl (by decide)) (by simp [Value.oneCell']) HL.out.1 HL.out.2 ?_)
          intro a' c' w8 q' grow hat'
          have G := HH.out.growRow 7 (t := 29) (sz := 1) (n := j) (v := .slice ta j tc) (us := gotV room j) rfl (Fr.alloc (Fr.refl nob w9) (.cells #[.int .i64 (told j)] 29)) q' grow (fun g hg => (hat' g hg).imp_left (fun h => h.imp_right (fun h => by simpa using h)))
          rw [GS.out] at G
          have B5 := G.blk 6 (b := lb) (t := 50) (c := #[.slice ta j tc]) rfl
          have y5 : w8.cell? ⟨lb, 0, none⟩ = some (.slice ta j tc) := B5.cell 0
          have z5 := B5.froz 0
          have HS := G.setCell 6 (b := lb) (t := 50) (c := #[.slice ta j tc]) rfl 0 (.slice a' (j + 1) c')
          have HH5 : Hid (∃ ta tc, Heap w (w8.setCell ⟨lb, 0, none⟩ (.slice a' (j + 1) c')) (wdL c (mkW room k 0) ++ [blkP nb 3 #[.int .i64 (n : Nat)], rowP 2 1 (.slice (some g9) n cp2) n (gotV room n), blkP lb 50 #[.slice ta (j + 1) tc], rowP 29 1 (.slice ta (j + 1) tc) (j + 1) (gotV room (j + 1))])) := Lib.hid ⟨a', c', HS⟩
          clear G q' grow hat' QQ HS B5 HH y4 HE
          go_wp2_with fail
          exact ⟨⟨j + 1, by go_num, by omega, HH5⟩, by simp [intOf]; omega⟩
        · have hgt : got room j = 0 := if_neg hjr
          rw [hgt] at y1 GS
          have hjr' : ¬ ((j : Int) < (room : Int)) := by omega
          clear hat hgt hjr
          have B4 := H0.blk 6 (b := lb) (t := 50) (c := #[.slice ta j tc]) rfl
          have y4 : wr.cell? ⟨lb, 0, none⟩ = some (.slice ta j tc) := B4.cell 0
          have HH := Lib.hid H0
          have QQ := Lib.hid (H0.row 7 (t := 29) (sz := 1) (n := j) (v := .slice ta j tc) (us := gotV room j) rfl)
          have hlm' : j + 1 ≤ maxLen := by unfold maxLen; omega
          have hlb2 : (j + 1) * 8 ≤ 140737488355328 := by omega
          have HL := Lib.hid (And.intro hlm' hlb2)
          clear H0 B4 v0 v1 v2 v3 v4 v5 hlm' hlb2
          go_wp2_with (at_builtin; refine wpList_append_typed _ rfl _ _ _ (by rfl) 29 i0 (.int .i64 0) 1 8 Try.underlying50 I0.out.1 I0.out.2.1 I0.out.2.2.1 I0.out.2.2.2 rfl (by decide) (.slice ta j tc) j (gotV room j) (by rfl) (QQ.out.fr (F := nob) (by repeat (first | exact Fr.refl _ _ | apply Fr.drew | apply Fr.alloc)) (fun _ _ _ x => x)) _ 1 [.int .i64 0] (by rfl) (RdV.block (cs := #[.int .i64 0]) (t := 29) (by repeat (first | exact Blk.new' rfl _ _ | apply Blk.drew | apply Blk.alloc)) rfl (by decide)) (by simp [Value.oneCell']) HL.out.1 HL.out.2 ?_)
          intro a' c' w8 q' grow hat'
          have G := HH.out.growRow 7 (t := 29) (sz := 1) (n := j) (v := .slice ta j tc) (us := gotV room j) rfl (Fr.alloc (Fr.refl nob wr) (.cells #[.int .i64 0] 29)) q' grow (fun g hg => (hat' g hg).imp_left (fun h => h.imp_right (fun h => by simpa using h)))
          rw [GS.out] at G
          have B5 := G.blk 6 (b := lb) (t := 50) (c := #[.slice ta j tc]) rfl
          have y5 : w8.cell? ⟨lb, 0, none⟩ = some (.slice ta j tc) := B5.cell 0
          have z5 := B5.froz 0
          have HS := G.setCell 6 (b := lb) (t := 50) (c := #[.slice ta j tc]) rfl 0 (.slice a' (j + 1) c')
          have HH5 : Hid (∃ ta tc, Heap w (w8.setCell ⟨lb, 0, none⟩ (.slice a' (j + 1) c')) (wdL c (mkW room k 0) ++ [blkP nb 3 #[.int .i64 (n : Nat)], rowP 2 1 (.slice (some g9) n cp2) n (gotV room n), blkP lb 50 #[.slice ta (j + 1) tc], rowP 29 1 (.slice ta (j + 1) tc) (j + 1) (gotV room (j + 1))])) := Lib.hid ⟨a', c', HS⟩
          clear G q' grow hat' QQ HS B5 HH y4 HE
          go_wp2_with fail
          exact ⟨⟨j + 1, by go_num, by omega, HH5⟩, by simp [intOf]; omega⟩
      · have hkn : n = j := by omega
        subst hkn
        clear hlt hj
        obtain ⟨l2, r1, r2⟩ := runs_drops room k n HK.out.symm (by omega) n 0 (by omega)
        rw [← List.range_eq_range', show min 0 k = 0 from by omega] at r1
        rw [show k - min 0 k = k from by omega] at r2
        have hrl : ((List.range n).map (got room)).length = n := by simp
        have CS := Start_alone (me := 0) (f := 39) (first := #[]) (cap := #[.pointer (some ⟨lb, 0, none⟩)]) (p := dropsP ((List.range n).map (got room))) (H := fun _ => True) H0 (fun M b tb hM => wmd_does (wdPl_is c _ _ tb) hM (by rw [hrl]; omega) 6 7 (fun s T => rfl) (fun s T => by rw [hrl]; rfl)) wmd_enters (mkW_ok (N := 60) (Nat.zero_le _) (by have := HK.out; omega) (Nat.le_refl _) (by omega)) (by omega) (ev0_is _) (r1.bind (q := fun _ => (.ret [] : Wk (List Int))) .ret) (by have := HK.out; simp [r2]; omega) (by simp) (fun _ _ _ _ => trivial)
        rw [List.append_nil, r2] at CS
        have CS := Lib.hid CS
        have hmf : ∀ (fn : Fn) (first cap : Array Value) (z : World), (Instr.makeFunc fn first cap).run Try.prog z = .ok (.func fn first cap) z := fun _ _ _ _ => rfl
        clear r1 r2 hrl H0 HE
        go_wp2_with fail
        refine CS.out.mono ?_
        rintro e w9 ⟨tb, rfl, CA⟩
        clear CS
        go_wp2_with fail
        refine CA.out.mono ?_
        rintro e w10 ⟨a3, cp3, rfl, H5, ok5, _⟩
        clear CA ok5
        have H5 : Heap w w10 ((wdL c (mkW room k k) ++ [blkP nb 3 #[.int .i64 (n : Nat)], rowP 2 1 (.slice a2 n cp2) n (gotV room n), blkP lb 50 #[.slice ta n tc], rowP 29 1 (.slice ta n tc) n (gotV room n)]) ++ [rowP 2 1 (.slice a3 0 cp3) 0 []]) := by rw [List.append_assoc]; exact H5
        have H5 := H5.first
        have y0 : w10.cell? ⟨nb, 0, none⟩ = some (.int .i64 (n : Nat)) := (H5.blk 4 (b := nb) (t := 3) (c := #[.int .i64 (n : Nat)]) rfl).cell 0
        obtain ⟨v0, v1, v2, v3, v4, v5⟩ := wdL_cells H5
        have HH := Lib.hid H5
        have B10 := H5.below
        have CU := Used_h H5 1 rfl
        rw [show (mkW room k k).ar.used = 2 from by show 2 + ((k - k : Nat) : Int) = 2; omega] at CU
        have CU := Lib.hid CU
        have CF := Lib.hid (Faults_h H5 1 rfl)
        generalize hsv : ((max k 1 : Nat) : Int) = sv at *
        have HSV : Hid (sv = max (k : Int) 1) := Lib.hid (by omega)
        clear H5 hsv hmf HH
        go_upto_region 18 with fail
        rcases (by omega : (n : Int) < (room : Int) ∨ (room : Int) ≤ (n : Int)) with hc2 | hc2
        · rcases (by omega : (n : Int) < 1 ∨ 1 ≤ (n : Int)) with hc1 | hc1
          · have hsv : sv = 1 := by have h1 := HSV.out; have h2 := HK.out; omega
            subst hsv
            clear HSV HK
            go_wp2_with fail
            refine CU.out.mono ?_
            rintro e w11 ⟨rfl, rfl⟩
            go_wp2_with fail
            refine CF.out.mono ?_
            rintro e w11 ⟨rfl, rfl⟩
            go_wp2_with fail
            go_ret
            exact ⟨rfl, B10⟩
          · have hsv : sv = (n : Int) := by have h1 := HSV.out; have h2 := HK.out; omega
            subst hsv
            clear HSV HK
            go_wp2_with fail
            refine CU.out.mono ?_
            rintro e w11 ⟨rfl, rfl⟩
            go_wp2_with fail
            refine CF.out.mono ?_
            rintro e w11 ⟨rfl, rfl⟩
            go_wp2_with fail
            go_ret
            exact ⟨rfl, B10⟩
        · rcases (by omega : (room : Int) < 1 ∨ 1 ≤ (room : Int)) with hc1 | hc1
          · have hsv : sv = 1 := by have h1 := HSV.out; have h2 := HK.out; omega
            subst hsv
            clear HSV HK
            go_wp2_with fail
            refine CU.out.mono ?_
            rintro e w11 ⟨rfl, rfl⟩
            go_wp2_with fail
            refine CF.out.mono ?_
            rintro e w11 ⟨rfl, rfl⟩
            go_wp2_with fail
            go_ret
            exact ⟨rfl, B10⟩
          · have hsv : sv = (room : Int) := by have h1 := HSV.out; have h2 := HK.out; omega
            subst hsv
            clear HSV HK
            go_wp2_with fail
            refine CU.out.mono ?_
            rintro e w11 ⟨rfl, rfl⟩
            go_wp2_with fail
            refine CF.out.mono ?_
            rintro e w11 ⟨rfl, rfl⟩
            go_wp2_with fail
            go_ret
            exact ⟨rfl, B10⟩
end Go.Proofs.Ythkohomogknddaa
