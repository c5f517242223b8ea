/- WorldLeaves. No condition. -/
import Derived.Test.YthkohomogknddaaLev
namespace Go.Proofs.Ythkohomogknddaa
open Go Go.RowKit
set_option linter.unusedVariables false
set_option linter.unusedSimpArgs false
set_option maxRecDepth 100000
theorem ripe_2 (q : Nat) : ripe (q : Int) ((q : Int) + 2) = false := by unfold ripe; simp <;> omega
theorem ripe_3 (q : Nat) : ripe (q : Int) ((q : Int) + 3) = true := by unfold ripe; simp <;> omega
theorem lv_take2 (k q j : Nat) (ats : List Int) : takeEp 1 ((q : Int) + 2) (lvW k (q : Nat) (goneL j ((q : Int) :: ats))).ep = (0, (lvW k (q : Nat) (goneL j ((q : Int) :: ats))).ep) := by
  unfold takeEp
  rw [if_pos (show isT 1 _ = true from rfl)]
  simp [lvW, goneL, ripe_2]
theorem lv_take3 (k q j : Nat) (ats : List Int) : takeEp 1 ((q : Int) + 3) (lvW k (q : Nat) (goneL j ((q : Int) :: ats))).ep = (told j, (lvW k (q : Nat) (goneL (j + 1) ats)).ep) := by
  unfold takeEp
  rw [if_pos (show isT 1 _ = true from rfl)]
  simp [lvW, goneL, ripe_3]
set_option maxHeartbeats 8000000 in
theorem WorldLeaves_walk (many : Int) (hmany : 0 ≤ many ∧ many ≤ 255) (now : Int) (hnow : 0 ≤ now ∧ now ≤ 255) (w : World) :
    Calls Try.prog 8 #[.int .u8 many, .int .u8 now] w fun e w' => e = .returned (.bool true) ∧ Below w.heap.size w w' := by
  obtain ⟨m0, m1⟩ := hmany
  obtain ⟨n0, n1⟩ := hnow
  obtain ⟨q, hq⟩ : ∃ q : Nat, now % 5 = (q : Int) := ⟨(now % 5).toNat, by omega⟩
  obtain ⟨m, hm⟩ : ∃ m : Nat, many % 20 = (m : Int) := ⟨(many % 20).toNat, by omega⟩
  have hq5 : q < 5 := by omega
  have hm20 : m < 20 := by omega
  obtain ⟨i0, hi0, hz0, hz1, hz2⟩ := info_parts info_ref
  have I0 := Lib.hid (And.intro hi0 (And.intro hz0 (And.intro hz1 hz2)))
  clear hi0 hz0 hz1 hz2
  go_enter Try.func8, Try.ntmps8
  go_wp2_with fail
  refine (Awake_calls w).mono ?_
  rintro e w1 ⟨rfl, F1⟩
  have CS := Lib.hid (some_h ((Heap.start w).go F1) 2 30 (by omega) (by omega))
  clear F1
  go_wp2_with fail
  refine CS.out.mono ?_
  rintro e w2 ⟨c, _, rfl, H⟩
  clear CS
  have HH : Hid (Heap w w2 (wdL c (lvW 0 (0 : Nat) []))) := Lib.hid H
  clear H
  go_wp2_with fail
  try simp only [hq]
  go_loopw [21] (fun i wr => ∃ k : Nat, i = .int .i64 (k : Nat) ∧ k ≤ q ∧ Hid (Heap w wr (wdL c (lvW 0 (k : Nat) [])))) (fun i _ => q - (intOf i).toNat)
  case atStart => exact ⟨0, rfl, Nat.zero_le _, HH⟩
  case round =>
    clear HH
    obtain ⟨k, rfl, hk, HH⟩ := hrel
    by_cases hlt : k < q
    · obtain ⟨v0, v1, v2, v3, v4, v5⟩ := wdL_cells (Z := []) (by rw [List.append_nil]; exact HH.out)
      have C := Swap_h HH.out 3 rfl (k : Nat) ⟨by show (0 : Int) ≤ (k : Nat); omega, by show ((k : Nat) : Int) ≤ _; omega⟩
      have hsw : swapEp (k : Nat) (lvW 0 (k : Nat) []).ep = (lvW 0 ((k + 1 : Nat) : Int) []).ep := by
        unfold swapEp lvW; simp
      rw [hsw] at C
      have CC := Lib.hid C
      clear C hsw HH
      go_wp2_with fail
      refine CC.out.mono ?_
      rintro e w3 ⟨rfl, H3⟩
      have HH : Hid (Heap w w3 (wdL c (lvW 0 ((k + 1 : Nat) : Int) []))) := Lib.hid H3
      clear H3 CC v0 v1 v2 v3 v4 v5
      go_wp2_with fail
      exact ⟨⟨k + 1, by go_num, by omega, HH⟩, by simp [intOf]; omega⟩
    · have hkq : q = k := by omega
      subst hkq
      clear hlt hk
      have H2 := (HH.out.alloc 50 #[.slice none 0 0]).rowNil 29 1
      rw [List.append_assoc] at H2
      generalize hlb : wr.heap.size = lb at *
      generalize hw3 : wr.alloc (.cells #[.slice none 0 0] 50) = w3 at *
      have HH2 : Hid (∃ ta tc, Heap w w3 (wdL c (lvW 0 (q : Nat) []) ++ [blkP lb 50 #[.slice ta 0 tc], rowP 29 1 (.slice ta 0 tc) 0 (toldV 0)])) := Lib.hid ⟨none, 0, H2⟩
      clear H2 HH
      go_wp2_with fail
      try simp only [hm]
      go_loopw [33] (fun i wr => ∃ k : Nat, i = .int .u8 (k : Nat) ∧ k ≤ m ∧ Hid (∃ ta tc, Heap w wr (wdL c (lvW k (q : Nat) []) ++ [blkP lb 50 #[.slice ta k tc], rowP 29 1 (.slice ta k tc) k (toldV k)]))) (fun i _ => m - (intOf i).toNat)
      case atStart => exact ⟨0, rfl, Nat.zero_le _, HH2⟩
      case round =>
        clear HH2
        obtain ⟨k, rfl, hk, HE⟩ := hrel
        obtain ⟨ta, tc, H0⟩ := HE.out
        have HH := Lib.hid H0
        by_cases hlt : k < m
        · obtain ⟨v0, v1, v2, v3, v4, v5⟩ := wdL_cells H0
          have C := AllocNo_h H0 1 rfl ((tgS_ok (k := k) (by omega) (Nat.le_refl 60)).more (by omega)) false true
          have hal : allocAr ⟨false, true, [], [], []⟩ (lvW k (q : Nat) []).ar = ((told k, true), tgS (k + 1)) := tgS_alloc (by omega)
          rw [hal] at C
          have CC := Lib.hid C
          clear C hal H0 HE HH
          go_wp2_with fail
          refine CC.out.mono ?_
          rintro e w4 ⟨rfl, H3⟩
          have H3 : Heap w w4 (wdL c (lvW (k + 1) (q : Nat) []) ++ [blkP lb 50 #[.slice ta k tc], rowP 29 1 (.slice ta k tc) k (toldV k)]) := H3
          have B4 := H3.blk 4 (b := lb) (t := 50) (c := #[.slice ta k tc]) rfl
          have y0 : w4.cell? ⟨lb, 0, none⟩ = some (.slice ta k tc) := B4.cell 0
          have HH := Lib.hid H3
          have QQ := Lib.hid (H3.row 5 (t := 29) (sz := 1) (n := k) (v := .slice ta k tc) (us := toldV k) rfl)
          have hlm' : k + 1 ≤ maxLen := by unfold maxLen; omega
          have hlb2 : (k + 1) * 8 ≤ 140737488355328 := by omega
          have HL := Lib.hid (And.intro hlm' hlb2)
          clear CC H3 B4 v0 v1 v2 v3 v4 v5 hlm' hlb2
          go_wp2_with (at_builtin; refine wpList_append_typed _ rfl _ _ _ (by rfl) 29 i0 (.int .i64 0) 1 8 Try.underlying50 I0.out.1 I0.out.2.1 I0.out.2.2.1 I0.out.2.2.2 rfl (by decide) (.slice ta k tc) k (toldV k) (by rfl) (QQ.out.fr (F := nob) (by repeat (first | exact Fr.refl _ _ | apply Fr.drew | apply Fr.alloc)) (fun _ _ _ x => x)) _ 1 [.int .i64 (told k)] (by rfl) (RdV.block (cs := #[.int .i64 (told k)]) (t := 29) (by repeat (first | exact Blk.new' rfl _ _ | apply Blk.drew | apply Blk.alloc)) rfl (by decide)) (by simp [Value.oneCell']) HL.out.1 HL.out.2 ?_)
          intro a' c' w5 q' grow hat'
          have G := HH.out.growRow 5 (t := 29) (sz := 1) (n := k) (v := .slice ta k tc) (us := toldV k) rfl (Fr.alloc (Fr.refl nob w4) (.cells #[.int .i64 (told k)] 29)) q' grow (fun g hg => (hat' g hg).imp_left (fun h => h.imp_right (fun h => by simpa using h)))
          rw [toldV_snoc] at G
          have B5 := G.blk 4 (b := lb) (t := 50) (c := #[.slice ta k tc]) rfl
          have y5 : w5.cell? ⟨lb, 0, none⟩ = some (.slice ta k tc) := B5.cell 0
          have z5 := B5.froz 0
          have HS := G.setCell 4 (b := lb) (t := 50) (c := #[.slice ta k tc]) rfl 0 (.slice a' (k + 1) c')
          have HH5 : Hid (∃ ta tc, Heap w (w5.setCell ⟨lb, 0, none⟩ (.slice a' (k + 1) c')) (wdL c (lvW (k + 1) (q : Nat) []) ++ [blkP lb 50 #[.slice ta (k + 1) tc], rowP 29 1 (.slice ta (k + 1) tc) (k + 1) (toldV (k + 1))])) := Lib.hid ⟨a', c', HS⟩
          clear G q' grow hat' QQ HS B5 HH y0
          go_wp2_with fail
          exact ⟨⟨k + 1, by go_num, by omega, HH5⟩, by simp [intOf]; omega⟩
        · have hkm : m = k := by omega
          subst hkm
          clear hlt hk
          obtain ⟨l, r1, r2, r3⟩ := runs_leave (q : Nat) ⟨by omega, by omega⟩ m m 0
          rw [← List.range_eq_range', Nat.zero_add] at r1
          have hrl : ((List.range m).map told).length = m := by simp
          have CS := Lib.hid (Start_alone (me := 1) (f := 42) (first := #[]) (cap := #[.pointer (some ⟨lb, 0, none⟩)]) (p := leavesP 1 ((List.range m).map told)) (H := HR) H0 (fun M b tb hM => wlv_does (wdPl_is c _ _ tb) hM (by rw [hrl]; omega) 4 5 (fun s T => rfl) (fun s T => by rw [hrl]; rfl)) wlv_enters (lvW_ok (i := 0) (ats := []) (N := 60) (by omega) (Nat.le_refl _) (by omega) (by simp) (by simp)) (by omega) (ev0_is _) (r1.bind (q := fun _ => (.ret [] : Wk (List Int))) .ret) (by simp [r2]; omega) (by simp) (HR_all (by rw [List.append_nil]; exact r3)))
          have hmx : (max (l ++ ([] : List Int)).length 1 : Nat) = max (2 * m) 1 := by rw [List.append_nil, r2]
          rw [hmx] at CS
          have hmf : ∀ (fn : Fn) (first cap : Array Value) (z : World), (Instr.makeFunc fn first cap).run Try.prog z = .ok (.func fn first cap) z := fun _ _ _ _ => rfl
          clear r1 r2 r3 hmx H0 HE HH hrl
          go_wp2_with fail
          refine CS.out.mono ?_
          rintro e w3 ⟨tb, rfl, CA⟩
          clear CS
          go_wp2_with fail
          refine CA.out.mono ?_
          rintro e w4 ⟨a2, cp2, rfl, H4, ok4, _⟩
          clear CA ok4 hmf
          have H4 : Heap w w4 ((wdL c (lvW m (q : Nat) (goneL 0 (List.replicate m (q : Int)))) ++ [blkP lb 50 #[.slice ta m tc], rowP 29 1 (.slice ta m tc) m (toldV m)]) ++ [rowP 2 1 (.slice a2 0 cp2) 0 []]) := by rw [List.append_assoc]; exact H4
          have H5 := H4.first
          obtain ⟨v0, v1, v2, v3, v4, v5⟩ := wdL_cells H5
          have y4 : w4.cell? ⟨lb, 0, none⟩ = some (.slice ta m tc) := (H5.blk 4 (b := lb) (t := 50) (c := #[.slice ta m tc]) rfl).cell 0
          have HH4 := Lib.hid H5
          have hwt : waits [[], goneL 0 (List.replicate m (q : Int))] = m := by simp [waits, goneL_len]
          have HWT := Lib.hid hwt
          clear H4 H5 hwt
          rcases Nat.eq_zero_or_pos m with hm0 | hmp
          · subst hm0
            have hmx1 : ((max (2 * 0) 1 : Nat) : Int) = 1 := rfl
            rw [hmx1]
            clear hmx1
            go_wp2_with fail
            go_quiet ((first | (go_at_call 34; exact Calls.quiet_of_same ((Limbo_h (HH4.out.drewN _) 3 rfl (by show waits [[], goneL 0 (List.replicate 0 (q : Int))] ≤ 1000000000; rw [HWT.out]; omega)).mono (R' := fun e w' => e = .returned (.int .i64 (0 : Nat)) ∧ w' = _) (fun e w' h => ⟨by have e1 := h.1; have e2 : waits (lvW 0 (q : Nat) (goneL 0 (List.replicate 0 (q : Int)))).ep.limbo = 0 := HWT.out; rw [e2] at e1; exact e1, h.2⟩))) | (go_at_call 33; exact Calls.quiet_of_same ((Used_h (HH4.out.drewN _) 1 rfl).mono (R' := fun e w' => e = .returned (.int .i64 (2 + (0 : Int))) ∧ w' = _) (fun e w' h => h)))))
            try clear hw1 hw2 hmx2 hmx4
            go_wp2_with fail
            have HG : Hid (Heap w (w4.drewN nq) (wdL c (lvW 0 (q : Nat) (goneL 0 (List.replicate 0 (q : Int)))) ++ [blkP lb 50 #[.slice ta 0 tc], rowP 29 1 (.slice ta 0 tc) 0 (toldV 0)])) := Lib.hid (HH4.out.drewN _)
            clear HH4 v0 v1 v2 v3 v4 v5 y4
            go_loopw [90] (fun i wr => ∃ j : Nat, i = .int .i64 (j : Nat) ∧ j ≤ 0 ∧ Hid (Heap w wr (wdL c (lvW 0 (q : Nat) (goneL j (List.replicate (0 - j) (q : Int)))) ++ [blkP lb 50 #[.slice ta 0 tc], rowP 29 1 (.slice ta 0 tc) 0 (toldV 0)]))) (fun i _ => 0 - (intOf i).toNat)
            case atStart => exact ⟨0, rfl, Nat.zero_le _, HG⟩
            case round =>
              clear HG
              obtain ⟨j, rfl, hj, HJ⟩ := hrel
              by_cases hjl : j < 0
              · exact absurd hjl (Nat.not_lt_zero j)
              · have hjm : 0 - j = 0 := by omega
                have hje : j = 0 := by omega
                obtain ⟨v0, v1, v2, v3, v4, v5⟩ := wdL_cells HJ.out
                have CL := Limbo_h HJ.out 3 rfl (by rw [hjm]; show waits [[], []] ≤ 1000000000; simp [waits])
                rw [hjm] at CL
                have CL := Lib.hid CL
                have B7 := HJ.out.below
                clear HJ
                go_wp2_with fail
                refine CL.out.mono ?_
                rintro e w7 ⟨rfl, rfl⟩
                go_wp2_with fail
                go_ret
                exact ⟨rfl, B7⟩
          · have hmx1 : ((max (2 * m) 1 : Nat) : Int) = 2 * (m : Int) := by omega
            have hmx2 : ¬ (2 * (m : Int) < 1) := by omega
            have hmx4 : (2 * (m : Int) < 1) = False := eq_false hmx2
            have hw1 : IntKind.i64.wrap (2 * (m : Int)) = 2 * (m : Int) := by
              rw [IntKind.wrap_i64, Int.emod_eq_of_lt (by omega) (by omega)]; omega
            have hw2 : IntKind.i64.wrap (2 + (m : Int)) = 2 + (m : Int) := by
              rw [IntKind.wrap_i64, Int.emod_eq_of_lt (by omega) (by omega)]; omega
            rw [hmx1]
            clear hmx1
            go_wp2_with fail
            go_quiet ((first | (go_at_call 34; exact Calls.quiet_of_same ((Limbo_h (HH4.out.drewN _) 3 rfl (by show waits [[], goneL 0 (List.replicate m (q : Int))] ≤ 1000000000; rw [HWT.out]; omega)).mono (R' := fun e w' => e = .returned (.int .i64 (m : Nat)) ∧ w' = _) (fun e w' h => ⟨by have e1 := h.1; have e2 : waits (lvW m (q : Nat) (goneL 0 (List.replicate m (q : Int)))).ep.limbo = m := HWT.out; rw [e2] at e1; exact e1, h.2⟩))) | (go_at_call 33; exact Calls.quiet_of_same ((Used_h (HH4.out.drewN _) 1 rfl).mono (R' := fun e w' => e = .returned (.int .i64 (2 + (m : Int))) ∧ w' = _) (fun e w' h => h)))))
            try clear hw1 hw2 hmx2 hmx4
            go_wp2_with fail
            have HG : Hid (Heap w (w4.drewN nq) (wdL c (lvW m (q : Nat) (goneL 0 (List.replicate m (q : Int)))) ++ [blkP lb 50 #[.slice ta m tc], rowP 29 1 (.slice ta m tc) m (toldV m)])) := Lib.hid (HH4.out.drewN _)
            clear HH4 v0 v1 v2 v3 v4 v5 y4
            go_loopw [90] (fun i wr => ∃ j : Nat, i = .int .i64 (j : Nat) ∧ j ≤ m ∧ Hid (Heap w wr (wdL c (lvW m (q : Nat) (goneL j (List.replicate (m - j) (q : Int)))) ++ [blkP lb 50 #[.slice ta m tc], rowP 29 1 (.slice ta m tc) m (toldV m)]))) (fun i _ => m - (intOf i).toNat)
            case atStart => exact ⟨0, rfl, Nat.zero_le _, HG⟩
            case round =>
              clear HG
              obtain ⟨j, rfl, hj, HJ⟩ := hrel
              by_cases hjl : j < m
              · obtain ⟨v0, v1, v2, v3, v4, v5⟩ := wdL_cells HJ.out
                obtain ⟨g9, ee, hcc, hat⟩ := (HJ.out.row 5 (t := 29) (sz := 1) (n := m) (v := .slice ta m tc) (us := toldV m) rfl).rdv.at (by omega)
                subst ee
                have y1 := hat j _ (toldV_get hjl)
                have hlk := tgS_look (k := m) (i := j) hjl (by omega)
                have okj := lvW_ok (k := m) (N := 60) (now := (q : Int)) (i := j) (ats := List.replicate (m - j) (q : Int)) (by omega) (Nat.le_refl _) (by omega) (fun a ha => by rw [List.mem_replicate] at ha; omega) (by simp <;> omega)
                have CLk := Look_h HJ.out 1 rfl (okj.ar.ok (by omega)) okj.ar.nds (told j)
                have CL := Lib.hid (CLk.mono (R' := fun e w' => ∃ vp vk vn, e = .returned (.agg #[.bool false, .bool true, vp, vk, vn]) ∧ Heap w w' ((wdL c (lvW m (q : Nat) (goneL j (List.replicate (m - j) (q : Int)))) ++ [blkP lb 50 #[.slice (some g9) m tc], rowP 29 1 (.slice (some g9) m tc) m (toldV m)]) ++ ndL tagNd vp vk vn)) (fun e w' h => by
                  obtain ⟨vp, vk, vn, h1, h2⟩ := h
                  change e = .returned (ndV (lookAr (told j) (tgS m)).1 vp vk vn) at h1
                  change Heap w w' (((wdL c (lvW m (q : Nat) (goneL j (List.replicate (m - j) (q : Int)))) ++ [blkP lb 50 #[.slice (some g9) m tc], rowP 29 1 (.slice (some g9) m tc) m (toldV m)]).set 1 (areP c.ab (lookAr (told j) (tgS m)).2)) ++ ndL (lookAr (told j) (tgS m)).1 vp vk vn) at h2
                  rw [hlk] at h1 h2
                  exact ⟨vp, vk, vn, h1, h2⟩))
                have HJL := Lib.hid hjl
                have hrep : List.replicate (m - j) (q : Int) = (q : Int) :: List.replicate (m - (j + 1)) (q : Int) := by rw [← List.replicate_succ, show m - (j + 1) + 1 = m - j from by omega]
                have HREP := Lib.hid hrep
                have OKJ := Lib.hid okj
                clear hat hlk CLk okj HJ hrep
                go_wp2_with fail
                refine CL.out.mono ?_
                rintro e w5 ⟨vp, vk, vn, rfl, H5⟩
                have H5 := H5.first
                clear CL v0 v1 v2 v3 v4 v5
                obtain ⟨v0, v1, v2, v3, v4, v5⟩ := wdL_cells H5
                have CR1 := Ready_h H5 3 rfl OKJ.out.ep 1 ((q : Int) + 2) (by omega)
                rw [HREP.out, lv_take2, ← HREP.out] at CR1
                have CR1 := Lib.hid CR1
                have hfd : ∀ w : World, (Instr.field 58 (.agg #[.bool false, .bool true, vp, vk, vn]) 1).run Try.prog w = .ok (.bool true) w := fun _ => by kernel_rfl
                clear H5
                go_wp2_with fail
                refine CR1.out.mono ?_
                rintro e w6 ⟨rfl, H6⟩
                clear CR1 v0 v1 v2 v3 v4 v5
                have H6 : Heap w w6 (wdL c (lvW m (q : Nat) (goneL j (List.replicate (m - j) (q : Int)))) ++ [blkP lb 50 #[.slice (some g9) m tc], rowP 29 1 (.slice (some g9) m tc) m (toldV m)]) := H6
                obtain ⟨v0, v1, v2, v3, v4, v5⟩ := wdL_cells H6
                have CR2 := Ready_h H6 3 rfl OKJ.out.ep 1 ((q : Int) + 3) (by omega)
                rw [HREP.out, lv_take3] at CR2
                have CR2 := Lib.hid CR2
                clear H6
                go_wp2_with fail
                refine CR2.out.mono ?_
                rintro e w7 ⟨rfl, H7⟩
                have HH7 : Hid (Heap w w7 (wdL c (lvW m (q : Nat) (goneL (j + 1) (List.replicate (m - (j + 1)) (q : Int)))) ++ [blkP lb 50 #[.slice (some g9) m tc], rowP 29 1 (.slice (some g9) m tc) m (toldV m)])) := Lib.hid H7
                clear CR2 v0 v1 v2 v3 v4 v5 H7 y1
                go_wp2_with fail
                exact ⟨⟨j + 1, by go_num, HJL.out, HH7⟩, by have := HJL.out; simp [intOf] <;> omega⟩
              · have hjm : m - j = 0 := by omega
                have hje : j = m := by omega
                obtain ⟨v0, v1, v2, v3, v4, v5⟩ := wdL_cells HJ.out
                have CL := Limbo_h HJ.out 3 rfl (by rw [hjm]; show waits [[], []] ≤ 1000000000; simp [waits])
                rw [hjm] at CL
                have CL := Lib.hid CL
                have B7 := HJ.out.below
                clear HJ
                go_wp2_with fail
                refine CL.out.mono ?_
                rintro e w7 ⟨rfl, rfl⟩
                go_wp2_with fail
                go_ret
                exact ⟨rfl, B7⟩
end Go.Proofs.Ythkohomogknddaa
