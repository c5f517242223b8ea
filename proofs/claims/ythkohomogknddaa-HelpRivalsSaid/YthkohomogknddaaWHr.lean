/- HelpRivals. No condition. -/
import Derived.Test.YthkohomogknddaaHrp
import Derived.Deep.DeepCutAuto
import Derived.Deep.CutRange
namespace Go.Proofs.Ythkohomogknddaa
open Go Go.RowKit
set_option linter.unusedVariables false
set_option linter.unusedSimpArgs false
set_option maxRecDepth 100000
set_option maxHeartbeats 200000000 in
theorem HelpRivals_walk (a : Int) (ha : 0 ≤ a ∧ a ≤ 255) (b : Int) (hb : 0 ≤ b ∧ b ≤ 255) (third : Bool) (v : Value) (ys : List Int) (w : World) (R : RdV w v ys.length 1 (ys.map (Value.int .u8))) (hy : ∀ n ∈ ys, (Lit.int .u8 n).wf = true) :
    Calls Try.prog 10 #[.int .u8 a, .int .u8 b, .bool third, v] w fun e w' => e = .returned (.bool true) ∧ Below w.heap.size w w' := by
  have hshort := R.short
  obtain ⟨pa, pc, rfl⟩ := R.len
  have HR := Lib.hid R
  have HY : Hid (∀ n ∈ ys, 0 ≤ n ∧ n ≤ 255) := Lib.hid (fun n hn => bounds_u8 (hy n hn))
  clear R hy
  by_cases hlen : 100 < ys.length
  · go_enter Try.func10, Try.ntmps10
    go_wp2_with fail
    refine (Awake9 w).mono ?_
    rintro e w1 ⟨rfl, F1⟩
    have B1 := Lib.hid ((Heap.start w).go F1).below
    clear F1
    go_wp2_with fail
    go_ret
    exact ⟨rfl, B1.out⟩
  · by_cases na : a % 32 = 0
    · have fa : ((a % 32) == 0) = true := beq_iff_eq.2 na
      go_enter Try.func10, Try.ntmps10
      go_wp2_with fail
      refine (Awake9 w).mono ?_
      rintro e w1 ⟨rfl, F1⟩
      have B1 := Lib.hid ((Heap.start w).go F1).below
      clear F1
      go_wp2_with fail
      go_ret
      exact ⟨rfl, B1.out⟩
    · have fa : ((a % 32) == 0) = false := beq_eq_false_iff_ne.2 na
      by_cases nb : b % 32 = 0
      · have fb : ((b % 32) == 0) = true := beq_iff_eq.2 nb
        go_enter Try.func10, Try.ntmps10
        go_wp2_with fail
        refine (Awake9 w).mono ?_
        rintro e w1 ⟨rfl, F1⟩
        have B1 := Lib.hid ((Heap.start w).go F1).below
        clear F1
        go_wp2_with fail
        go_ret
        exact ⟨rfl, B1.out⟩
      · have fb : ((b % 32) == 0) = false := beq_eq_false_iff_ne.2 nb
        go_enter Try.func10, Try.ntmps10
        go_wp2_with fail
        refine (Awake9 w).mono ?_
        rintro e w1 ⟨rfl, F1⟩
        have CN := Lib.hid (Nodes_h ((Heap.start w).go F1) 4 5 (by omega) (by omega))
        clear F1
        go_wp2_with fail
        clear fa fb
        refine CN.out.mono ?_
        rintro e w2 ⟨c, a0, cp, _, rfl, H2⟩
        clear CN
        obtain ⟨sa, hsa⟩ : ∃ s, a % 32 = s := ⟨_, rfl⟩
        obtain ⟨sb, hsb⟩ : ∃ s, b % 32 = s := ⟨_, rfl⟩
        have PA : Hid (RvOk (rvSet sa 98)) := Lib.hid (by rw [← hsa]; exact rvSet_ok ha.1 na (.inl rfl))
        have PB : Hid (RvOk (rvSet sb 99)) := Lib.hid (by rw [← hsb]; exact rvSet_ok hb.1 nb (.inr rfl))
        have NA := Lib.hid (And.intro (show psU sa 5 ≠ [] by rw [← hsa]; exact psU_ne ha.1 na) (show psU sb 5 ≠ [] by rw [← hsb]; exact psU_ne hb.1 nb))
        have BC : Hid ((bits BinOp.and IntKind.u8 a b % 32 = 0 ∧ ∀ p, p ∈ psU sa 5 → p ∉ psU sb 5) ∨ (bits BinOp.and IntKind.u8 a b % 32 ≠ 0 ∧ ∃ p, p ∈ psU sa 5 ∧ p ∈ psU sb 5)) := Lib.hid (by rw [← hsa, ← hsb]; exact bits_common ha hb)
        have SAB := Lib.hid (show (0 ≤ sa ∧ sa ≤ 255) ∧ (0 ≤ sb ∧ sb ≤ 255) by omega)
        obtain ⟨i0, hi0, hz0, hz1, hz2⟩ := info_parts info_thp
        have I0 := Lib.hid (And.intro hi0 (And.intro hz0 (And.intro hz1 hz2)))
        clear hi0 hz0 hz1 hz2 na nb
        have HSA := Lib.hid (And.intro hsa hsb)
        have CR1 := Lib.hid (rival_h (Z := []) H2 sa 98 SAB.out.1 (by show ((0 : Nat) : Int) < 40; omega) NA.out.1)
        clear H2
        go_wp2_with fail
        rw [hsa]
        clear hsa
        refine CR1.out.mono ?_
        rintro e w3 ⟨p1, c1, p2, c2, rfl, H4⟩
        clear CR1
        have H5 := H4.alloc 78 #[.slice p1 (psU sa 5).length c1, .slice p2 (psU sa 5).length c2, .int .i64 1, .int .i64 0, .int .i64 (200 + 10 * ((rvSet sa 98).hd : Int)), .int .i64 98]
        obtain ⟨r1, hr1⟩ : ∃ r, w3.heap.size = r := ⟨_, rfl⟩
        obtain ⟨w4, hw4⟩ : ∃ w, w3.alloc (.cells #[.slice p1 (psU sa 5).length c1, .slice p2 (psU sa 5).length c2, .int .i64 1, .int .i64 0, .int .i64 (200 + 10 * ((rvSet sa 98).hd : Int)), .int .i64 98] 78) = w := ⟨_, rfl⟩
        rw [hr1, hw4] at H5
        have H5 : Heap w w4 (wdL c ({ ndW 4 5 with rt := ⟨(ndW 4 5).rt.es ++ [rvE (rvSet sa 98) 1 false], (ndW 4 5).rt.most⟩ }) ++ (rowP 29 1 (.slice a0 5 cp) 5 (intC (tolds 5)) :: [rowP 29 1 (.slice p1 (psU sa 5).length c1) (psU sa 5).length (intC ((psU sa 5).map told)), rowP 2 1 (.slice p2 (psU sa 5).length c2) (psU sa 5).length (intC (List.replicate (psU sa 5).length 0)), blkP r1 78 #[.slice p1 (psU sa 5).length c1, .slice p2 (psU sa 5).length c2, .int .i64 1, .int .i64 0, .int .i64 (200 + 10 * ((rvSet sa 98).hd : Int)), .int .i64 98]])) := H5
        have CR2 := Lib.hid (rival_h (Z := [rowP 29 1 (.slice p1 (psU sa 5).length c1) (psU sa 5).length (intC ((psU sa 5).map told)), rowP 2 1 (.slice p2 (psU sa 5).length c2) (psU sa 5).length (intC (List.replicate (psU sa 5).length 0)), blkP r1 78 #[.slice p1 (psU sa 5).length c1, .slice p2 (psU sa 5).length c2, .int .i64 1, .int .i64 0, .int .i64 (200 + 10 * ((rvSet sa 98).hd : Int)), .int .i64 98]]) H5 sb 99 SAB.out.2 (by show ((1 : Nat) : Int) < 40; omega) NA.out.2)
        have HWW := Lib.hid (And.intro hr1 hw4)
        clear H4 H5 hr1 hw4
        go_wp2_with fail
        rw [HWW.out.1, HWW.out.2, hsb]
        clear hsb HWW
        refine CR2.out.mono ?_
        rintro e w5 ⟨p3, c3, p4, c4, rfl, H5⟩
        clear CR2
        have H6 := H5.alloc 78 #[.slice p3 (psU sb 5).length c3, .slice p4 (psU sb 5).length c4, .int .i64 1, .int .i64 0, .int .i64 (200 + 10 * ((rvSet sb 99).hd : Int)), .int .i64 99]
        obtain ⟨r2, hr2⟩ : ∃ r, w5.heap.size = r := ⟨_, rfl⟩
        obtain ⟨w6, hw6⟩ : ∃ w, w5.alloc (.cells #[.slice p3 (psU sb 5).length c3, .slice p4 (psU sb 5).length c4, .int .i64 1, .int .i64 0, .int .i64 (200 + 10 * ((rvSet sb 99).hd : Int)), .int .i64 99] 78) = w := ⟨_, rfl⟩
        rw [hr2, hw6] at H6
        have H6 : Heap w w6 (wdL c (h2W (rvSet sa 98) (rvSet sb 99) ep4 rvX) ++ ([rowP 29 1 (.slice a0 5 cp) 5 (intC (tolds 5)), rowP 29 1 (.slice p1 (psU sa 5).length c1) (psU sa 5).length (intC ((psU sa 5).map told)), rowP 2 1 (.slice p2 (psU sa 5).length c2) (psU sa 5).length (intC (List.replicate (psU sa 5).length 0)), blkP r1 78 #[.slice p1 (psU sa 5).length c1, .slice p2 (psU sa 5).length c2, .int .i64 1, .int .i64 0, .int .i64 (200 + 10 * ((rvSet sa 98).hd : Int)), .int .i64 98], rowP 29 1 (.slice p3 (psU sb 5).length c3) (psU sb 5).length (intC ((psU sb 5).map told)), rowP 2 1 (.slice p4 (psU sb 5).length c4) (psU sb 5).length (intC (List.replicate (psU sb 5).length 0)), blkP r2 78 #[.slice p3 (psU sb 5).length c3, .slice p4 (psU sb 5).length c4, .int .i64 1, .int .i64 0, .int .i64 (200 + 10 * ((rvSet sb 99).hd : Int)), .int .i64 99]])) := H6
        have CH0 := Lib.hid (helper_start H6 c.wb 0 1)
        have HWW := Lib.hid (And.intro hr2 hw6)
        clear H5 H6 hr2 hw6
        go_wp2_with fail
        rw [HWW.out.1, HWW.out.2]
        clear HWW
        refine CH0.out.mono ?_
        rintro e x0 ⟨n0, b0, rfl, H7⟩
        clear CH0
        have H7 : Heap w x0 (wdL c (h2W (rvSet sa 98) (rvSet sb 99) ep4 rvX) ++ ([rowP 29 1 (.slice a0 5 cp) 5 (intC (tolds 5)), rowP 29 1 (.slice p1 (psU sa 5).length c1) (psU sa 5).length (intC ((psU sa 5).map told)), rowP 2 1 (.slice p2 (psU sa 5).length c2) (psU sa 5).length (intC (List.replicate (psU sa 5).length 0)), blkP r1 78 #[.slice p1 (psU sa 5).length c1, .slice p2 (psU sa 5).length c2, .int .i64 1, .int .i64 0, .int .i64 (200 + 10 * ((rvSet sa 98).hd : Int)), .int .i64 98], rowP 29 1 (.slice p3 (psU sb 5).length c3) (psU sb 5).length (intC ((psU sb 5).map told)), rowP 2 1 (.slice p4 (psU sb 5).length c4) (psU sb 5).length (intC (List.replicate (psU sb 5).length 0)), blkP r2 78 #[.slice p3 (psU sb 5).length c3, .slice p4 (psU sb 5).length c4, .int .i64 1, .int .i64 0, .int .i64 (200 + 10 * ((rvSet sb 99).hd : Int)), .int .i64 99]] ++ allG c (rvWs 0 [(n0, b0)]) (rvTs [(n0, b0)]))) := by
          have := H7 c rfl
          simpa [allG, rvWs, rvTs, rvN, who2, List.append_assoc] using this
        have CH1 := Lib.hid (helper_start H7 c.wb 1 2)
        clear H7
        go_wp2_with fail
        refine CH1.out.mono ?_
        rintro e x1 ⟨n1, b1, rfl, H7⟩
        clear CH1
        have H7 : Heap w x1 (wdL c (h2W (rvSet sa 98) (rvSet sb 99) ep4 rvX) ++ ([rowP 29 1 (.slice a0 5 cp) 5 (intC (tolds 5)), rowP 29 1 (.slice p1 (psU sa 5).length c1) (psU sa 5).length (intC ((psU sa 5).map told)), rowP 2 1 (.slice p2 (psU sa 5).length c2) (psU sa 5).length (intC (List.replicate (psU sa 5).length 0)), blkP r1 78 #[.slice p1 (psU sa 5).length c1, .slice p2 (psU sa 5).length c2, .int .i64 1, .int .i64 0, .int .i64 (200 + 10 * ((rvSet sa 98).hd : Int)), .int .i64 98], rowP 29 1 (.slice p3 (psU sb 5).length c3) (psU sb 5).length (intC ((psU sb 5).map told)), rowP 2 1 (.slice p4 (psU sb 5).length c4) (psU sb 5).length (intC (List.replicate (psU sb 5).length 0)), blkP r2 78 #[.slice p3 (psU sb 5).length c3, .slice p4 (psU sb 5).length c4, .int .i64 1, .int .i64 0, .int .i64 (200 + 10 * ((rvSet sb 99).hd : Int)), .int .i64 99]] ++ allG c (rvWs 0 [(n0, b0), (n1, b1)]) (rvTs [(n0, b0), (n1, b1)]))) := by
          have := H7 c rfl
          simpa [allG, rvWs, rvTs, rvN, who2, List.append_assoc] using this
        have CH2 := Lib.hid (helper_start H7 c.wb 2 1)
        clear H7
        go_wp2_with fail
        refine CH2.out.mono ?_
        rintro e x2 ⟨n2, b2, rfl, H7⟩
        clear CH2
        have H7 : Heap w x2 (wdL c (h2W (rvSet sa 98) (rvSet sb 99) ep4 rvX) ++ ([rowP 29 1 (.slice a0 5 cp) 5 (intC (tolds 5)), rowP 29 1 (.slice p1 (psU sa 5).length c1) (psU sa 5).length (intC ((psU sa 5).map told)), rowP 2 1 (.slice p2 (psU sa 5).length c2) (psU sa 5).length (intC (List.replicate (psU sa 5).length 0)), blkP r1 78 #[.slice p1 (psU sa 5).length c1, .slice p2 (psU sa 5).length c2, .int .i64 1, .int .i64 0, .int .i64 (200 + 10 * ((rvSet sa 98).hd : Int)), .int .i64 98], rowP 29 1 (.slice p3 (psU sb 5).length c3) (psU sb 5).length (intC ((psU sb 5).map told)), rowP 2 1 (.slice p4 (psU sb 5).length c4) (psU sb 5).length (intC (List.replicate (psU sb 5).length 0)), blkP r2 78 #[.slice p3 (psU sb 5).length c3, .slice p4 (psU sb 5).length c4, .int .i64 1, .int .i64 0, .int .i64 (200 + 10 * ((rvSet sb 99).hd : Int)), .int .i64 99]] ++ allG c (rvWs 0 [(n0, b0), (n1, b1), (n2, b2)]) (rvTs [(n0, b0), (n1, b1), (n2, b2)]))) := by
          have := H7 c rfl
          simpa [allG, rvWs, rvTs, rvN, who2, List.append_assoc] using this
        have HK := Lib.hid (H7.freshRow 38 3 (ptrs (rvWs 0 [(n0, b0), (n1, b1), (n2, b2)])) rfl (by decide))
        clear H7
        obtain ⟨bl, hbl⟩ : ∃ r, x2.heap.size = r := ⟨_, rfl⟩
        obtain ⟨x3, hx3⟩ : ∃ w, x2.alloc (.cells #[.pointer (some ⟨b0 + 3, 0, none⟩), .pointer (some ⟨b1 + 3, 0, none⟩), .pointer (some ⟨b2 + 3, 0, none⟩)] 38) = w := ⟨_, rfl⟩
        have HK3 : Hid (Heap w x3 (wdL c (h2W (rvSet sa 98) (rvSet sb 99) ep4 rvX) ++ ([rowP 29 1 (.slice a0 5 cp) 5 (intC (tolds 5)), rowP 29 1 (.slice p1 (psU sa 5).length c1) (psU sa 5).length (intC ((psU sa 5).map told)), rowP 2 1 (.slice p2 (psU sa 5).length c2) (psU sa 5).length (intC (List.replicate (psU sa 5).length 0)), blkP r1 78 #[.slice p1 (psU sa 5).length c1, .slice p2 (psU sa 5).length c2, .int .i64 1, .int .i64 0, .int .i64 (200 + 10 * ((rvSet sa 98).hd : Int)), .int .i64 98], rowP 29 1 (.slice p3 (psU sb 5).length c3) (psU sb 5).length (intC ((psU sb 5).map told)), rowP 2 1 (.slice p4 (psU sb 5).length c4) (psU sb 5).length (intC (List.replicate (psU sb 5).length 0)), blkP r2 78 #[.slice p3 (psU sb 5).length c3, .slice p4 (psU sb 5).length c4, .int .i64 1, .int .i64 0, .int .i64 (200 + 10 * ((rvSet sb 99).hd : Int)), .int .i64 99]] ++ allG c (rvWs 0 [(n0, b0), (n1, b1), (n2, b2)]) (rvTs [(n0, b0), (n1, b1), (n2, b2)])) ++ [rowP 38 1 (.slice (some ⟨bl, 0, none⟩) 3 3) 3 (ptrs (rvWs 0 [(n0, b0), (n1, b1), (n2, b2)]))])) := Lib.hid (by rw [← hbl, ← hx3]; exact HK.out)
        clear HK
        have HWW := Lib.hid (And.intro hbl hx3)
        clear hbl hx3
        go_upto_region 9 with fail
        rw [HWW.out.1, HWW.out.2]
        clear HWW
        cases third with
        | false =>
          have HQ0 := rv_squad (l := [(n0, b0), (n1, b1), (n2, b2)]) (X := [rowP 38 1 (.slice (some ⟨bl, 0, none⟩) 3 3) 3 (ptrs (rvWs 0 [(n0, b0), (n1, b1), (n2, b2)]))]) PA.out PB.out HK3.out
          have CM := Mixed_sys HQ0 (rv_plays2 PA.out PB.out) rv_does (by show 1 ≤ 3; decide) (by show 3 ≤ 10; decide) (la := (some ⟨bl, 0, none⟩)) (lc := 3) (jr := 0) rfl (.slice pa ys.length pc) ys HR.out HY.out (by omega) (fun i l s _ => by show 40 - l.length ≤ 2000; omega) (by omega)
          rw [show (rvWs 0 [(n0, b0), (n1, b1), (n2, b2)]).length = 3 from rfl] at CM
          have CM := Lib.hid CM
          clear HQ0 HK3
          go_wp2_with fail
          refine CM.out.mono ?_
          rintro e w9 ⟨s8, Ts8, Y8, N8, hN8, rfl, H8, hall⟩
          clear CM hN8
          obtain ⟨x8, hx8, hv8, d1, d2⟩ := rv_fin PA.out PB.out H8 hall (by show 2 ≤ 3; decide)
          subst hx8
          have HS := Lib.hid H8
          have HD := Lib.hid hall
          have HV := Lib.hid hv8
          have HE := rv_end PA.out PB.out hv8 d1 d2
          have hcomb : (bits BinOp.and IntKind.u8 a b % 32 = 0 ∧ x8.s1 = 2 ∧ x8.s2 = 2) ∨ (bits BinOp.and IntKind.u8 a b % 32 ≠ 0 ∧ x8.s1 = 2 ∧ x8.s2 = 0) ∨ (bits BinOp.and IntKind.u8 a b % 32 ≠ 0 ∧ x8.s1 = 0 ∧ x8.s2 = 2) := by
            rcases BC.out with ⟨h1, h2⟩ | ⟨h1, h2⟩
            · exact .inl ⟨h1, HE.2 h2⟩
            · rcases HE.1 h2 with h3 | h3
              · exact .inr (.inl ⟨h1, h3⟩)
              · exact .inr (.inr ⟨h1, h3⟩)
          clear H8 hall hv8 d1 d2 HE
          rcases hcomb with ⟨hbc, h1, h2⟩ | ⟨hbc, h1, h2⟩ | ⟨hbc, h1, h2⟩
          · have H12 := Lib.hid (And.intro h1 h2)
            rw [← bits_tmod ha hb] at hbc
            have fc : ((bits BinOp.and IntKind.u8 a b).tmod 32 == 0) = true := beq_iff_eq.2 hbc
            have fc2 : ((bits BinOp.and IntKind.u8 a b).tmod 32 != 0) = false := by rw [bne, fc]; rfl
            have FC := Lib.hid (And.intro fc fc2)
            clear h1 h2 hbc fc fc2
            have hH := HS.out.heap
            rw [List.append_assoc] at hH
            obtain ⟨v0, v1, v2, v3, v4, v5⟩ := wdL_cells hH
            have HHH := Lib.hid hH
            have CST := Lib.hid (show ∀ (z : World) (n : Int) (L : List Piece), n = 1 ∨ n = 2 → Heap w z (wdL c (h2W (rvSet sa 98) (rvSet sb 99) ep4 x8) ++ L) → Calls Try.prog 56 #[.pointer (some ⟨c.rb, 0, none⟩), .int .i64 n] z (fun e w' => e = .returned (.int .u8 (if n = 1 then 2 else 2)) ∧ w' = z) from fun z n L hn hz => by
              have C := State_h hz 2 rfl n
              rcases hn with rfl | rfl
              · rw [show stateRt 1 (h2W (rvSet sa 98) (rvSet sb 99) ep4 x8).rt = 2 from H12.out.1] at C
                exact C
              · rw [show stateRt 2 (h2W (rvSet sa 98) (rvSet sb 99) ep4 x8).rt = 2 from H12.out.2] at C
                exact C)
            clear hH
            go_upto_region 13 with fail
            go_cut [16, 17] (fun s16 s17 wx => s16 = .bool true ∧ s17 = .bool true ∧ ∃ k, wx = w9.drewN k)
            case first =>
              go_quiet ((first
                | (go_at_call 56; exact Calls.quiet_of_same (CST.out _ _ _ (by first | exact Or.inl rfl | exact Or.inr rfl) (HHH.out.drewN _)))))
              go_wp2_with fail
              go_meet
              exact ⟨rfl, rfl, _, rfl⟩
            case rest =>
            obtain ⟨rfl, rfl, nq, hwx⟩ := hcut
            clear CST HHH v0 v1 v2 v3 v4 v5
            rename World => w99
            have HS0 : Hid (∃ Y, Squad (rvG (rvSet sa 98) (rvSet sb 99) ep4 who2) c w (rvWs 0 [(n0, b0), (n1, b1), (n2, b2)]) [rowP 29 1 (.slice a0 5 cp) 5 (intC (tolds 5)), rowP 29 1 (.slice p1 (psU sa 5).length c1) (psU sa 5).length (intC ((psU sa 5).map told)), rowP 2 1 (.slice p2 (psU sa 5).length c2) (psU sa 5).length (intC (List.replicate (psU sa 5).length 0)), blkP r1 78 #[.slice p1 (psU sa 5).length c1, .slice p2 (psU sa 5).length c2, .int .i64 1, .int .i64 0, .int .i64 (200 + 10 * ((rvSet sa 98).hd : Int)), .int .i64 98], rowP 29 1 (.slice p3 (psU sb 5).length c3) (psU sb 5).length (intC ((psU sb 5).map told)), rowP 2 1 (.slice p4 (psU sb 5).length c4) (psU sb 5).length (intC (List.replicate (psU sb 5).length 0)), blkP r2 78 #[.slice p3 (psU sb 5).length c3, .slice p4 (psU sb 5).length c4, .int .i64 1, .int .i64 0, .int .i64 (200 + 10 * ((rvSet sb 99).hd : Int)), .int .i64 99]] w99 N8 (h2W (rvSet sa 98) (rvSet sb 99) ep4 x8) Ts8 ([rowP 38 1 (.slice (some ⟨bl, 0, none⟩) 3 3) 3 (ptrs (rvWs 0 [(n0, b0), (n1, b1), (n2, b2)]))] ++ Y)) := Lib.hid ⟨_, by rw [hwx]; exact HS.out.same (HS.out.heap.drewN _)⟩
            clear HS hwx
            obtain ⟨Y20, hs⟩ := HS0.out
            have hrw := hs.row (j := 0) (t := 38) (sz := 1) (n := 3) (v := .slice (some ⟨bl, 0, none⟩) 3 3) (us := ptrs (rvWs 0 [(n0, b0), (n1, b1), (n2, b2)])) rfl
            obtain ⟨ag9, ao9, _, ea2, _, _, hat2⟩ := hrw.at (by omega)
            injection ea2 with ea2
            injection ea2 with ea2 eo2
            subst ea2
            subst eo2
            have y0 : World.cell? _ ⟨bl, 0, none⟩ = some (.pointer (some ⟨b0 + 3, 0, none⟩)) := hat2 0 _ rfl
            clear hrw
            have CY := Lib.hid (rv_yes hs HD.out (i := 0) (q := (n0, b0)) rfl true (by show decide (x8.s1 = 2) = _; rw [H12.out.1]; rfl))
            clear hs hat2 HS0
            go_wp2_with fail
            refine CY.out.mono ?_
            rintro e w10 ⟨rfl, Y30, H40⟩
            clear CY y0
            have HS1 : Hid (∃ Y, Squad (rvG (rvSet sa 98) (rvSet sb 99) ep4 who2) c w (rvWs 0 [(n0, b0), (n1, b1), (n2, b2)]) [rowP 29 1 (.slice a0 5 cp) 5 (intC (tolds 5)), rowP 29 1 (.slice p1 (psU sa 5).length c1) (psU sa 5).length (intC ((psU sa 5).map told)), rowP 2 1 (.slice p2 (psU sa 5).length c2) (psU sa 5).length (intC (List.replicate (psU sa 5).length 0)), blkP r1 78 #[.slice p1 (psU sa 5).length c1, .slice p2 (psU sa 5).length c2, .int .i64 1, .int .i64 0, .int .i64 (200 + 10 * ((rvSet sa 98).hd : Int)), .int .i64 98], rowP 29 1 (.slice p3 (psU sb 5).length c3) (psU sb 5).length (intC ((psU sb 5).map told)), rowP 2 1 (.slice p4 (psU sb 5).length c4) (psU sb 5).length (intC (List.replicate (psU sb 5).length 0)), blkP r2 78 #[.slice p3 (psU sb 5).length c3, .slice p4 (psU sb 5).length c4, .int .i64 1, .int .i64 0, .int .i64 (200 + 10 * ((rvSet sb 99).hd : Int)), .int .i64 99]] w10 N8 (h2W (rvSet sa 98) (rvSet sb 99) ep4 x8) Ts8 ([rowP 38 1 (.slice (some ⟨bl, 0, none⟩) 3 3) 3 (ptrs (rvWs 0 [(n0, b0), (n1, b1), (n2, b2)]))] ++ Y)) := Lib.hid ⟨_, by rw [List.append_assoc] at H40; exact H40⟩
            clear H40
            obtain ⟨Y21, hs⟩ := HS1.out
            have hrw := hs.row (j := 0) (t := 38) (sz := 1) (n := 3) (v := .slice (some ⟨bl, 0, none⟩) 3 3) (us := ptrs (rvWs 0 [(n0, b0), (n1, b1), (n2, b2)])) rfl
            obtain ⟨ag9, ao9, _, ea2, _, _, hat2⟩ := hrw.at (by omega)
            injection ea2 with ea2
            injection ea2 with ea2 eo2
            subst ea2
            subst eo2
            have y1 : World.cell? _ ⟨bl, 1, none⟩ = some (.pointer (some ⟨b1 + 3, 0, none⟩)) := hat2 1 _ rfl
            clear hrw
            have CY := Lib.hid (rv_yes hs HD.out (i := 1) (q := (n1, b1)) rfl true (by show decide (x8.s2 = 2) = _; rw [H12.out.2]; rfl))
            clear hs hat2 HS1
            go_wp2_with fail
            refine CY.out.mono ?_
            rintro e w11 ⟨rfl, Y31, H41⟩
            clear CY y1
            have HS2 : Hid (∃ Y, Squad (rvG (rvSet sa 98) (rvSet sb 99) ep4 who2) c w (rvWs 0 [(n0, b0), (n1, b1), (n2, b2)]) [rowP 29 1 (.slice a0 5 cp) 5 (intC (tolds 5)), rowP 29 1 (.slice p1 (psU sa 5).length c1) (psU sa 5).length (intC ((psU sa 5).map told)), rowP 2 1 (.slice p2 (psU sa 5).length c2) (psU sa 5).length (intC (List.replicate (psU sa 5).length 0)), blkP r1 78 #[.slice p1 (psU sa 5).length c1, .slice p2 (psU sa 5).length c2, .int .i64 1, .int .i64 0, .int .i64 (200 + 10 * ((rvSet sa 98).hd : Int)), .int .i64 98], rowP 29 1 (.slice p3 (psU sb 5).length c3) (psU sb 5).length (intC ((psU sb 5).map told)), rowP 2 1 (.slice p4 (psU sb 5).length c4) (psU sb 5).length (intC (List.replicate (psU sb 5).length 0)), blkP r2 78 #[.slice p3 (psU sb 5).length c3, .slice p4 (psU sb 5).length c4, .int .i64 1, .int .i64 0, .int .i64 (200 + 10 * ((rvSet sb 99).hd : Int)), .int .i64 99]] w11 N8 (h2W (rvSet sa 98) (rvSet sb 99) ep4 x8) Ts8 ([rowP 38 1 (.slice (some ⟨bl, 0, none⟩) 3 3) 3 (ptrs (rvWs 0 [(n0, b0), (n1, b1), (n2, b2)]))] ++ Y)) := Lib.hid ⟨_, by rw [List.append_assoc] at H41; exact H41⟩
            clear H41
            obtain ⟨Y22, hs⟩ := HS2.out
            have hrw := hs.row (j := 0) (t := 38) (sz := 1) (n := 3) (v := .slice (some ⟨bl, 0, none⟩) 3 3) (us := ptrs (rvWs 0 [(n0, b0), (n1, b1), (n2, b2)])) rfl
            obtain ⟨ag9, ao9, _, ea2, _, _, hat2⟩ := hrw.at (by omega)
            injection ea2 with ea2
            injection ea2 with ea2 eo2
            subst ea2
            subst eo2
            have y2 : World.cell? _ ⟨bl, 2, none⟩ = some (.pointer (some ⟨b2 + 3, 0, none⟩)) := hat2 2 _ rfl
            clear hrw
            have CY := Lib.hid (rv_yes hs HD.out (i := 2) (q := (n2, b2)) rfl true (by show decide (x8.s1 = 2) = _; rw [H12.out.1]; rfl))
            clear hs hat2 HS2
            go_wp2_with fail
            refine CY.out.mono ?_
            rintro e w12 ⟨rfl, Y32, H42⟩
            clear CY y2
            have HS3 : Hid (∃ Y, Squad (rvG (rvSet sa 98) (rvSet sb 99) ep4 who2) c w (rvWs 0 [(n0, b0), (n1, b1), (n2, b2)]) [rowP 29 1 (.slice a0 5 cp) 5 (intC (tolds 5)), rowP 29 1 (.slice p1 (psU sa 5).length c1) (psU sa 5).length (intC ((psU sa 5).map told)), rowP 2 1 (.slice p2 (psU sa 5).length c2) (psU sa 5).length (intC (List.replicate (psU sa 5).length 0)), blkP r1 78 #[.slice p1 (psU sa 5).length c1, .slice p2 (psU sa 5).length c2, .int .i64 1, .int .i64 0, .int .i64 (200 + 10 * ((rvSet sa 98).hd : Int)), .int .i64 98], rowP 29 1 (.slice p3 (psU sb 5).length c3) (psU sb 5).length (intC ((psU sb 5).map told)), rowP 2 1 (.slice p4 (psU sb 5).length c4) (psU sb 5).length (intC (List.replicate (psU sb 5).length 0)), blkP r2 78 #[.slice p3 (psU sb 5).length c3, .slice p4 (psU sb 5).length c4, .int .i64 1, .int .i64 0, .int .i64 (200 + 10 * ((rvSet sb 99).hd : Int)), .int .i64 99]] w12 N8 (h2W (rvSet sa 98) (rvSet sb 99) ep4 x8) Ts8 ([rowP 38 1 (.slice (some ⟨bl, 0, none⟩) 3 3) 3 (ptrs (rvWs 0 [(n0, b0), (n1, b1), (n2, b2)]))] ++ Y)) := Lib.hid ⟨_, by rw [List.append_assoc] at H42; exact H42⟩
            clear H42
            obtain ⟨fc, fc2⟩ := FC.out
            have H0 : Heap w w12 (wdL c (h2W (rvSet sa 98) (rvSet sb 99) ep4 x8) ++ [rowP 29 1 (.slice a0 5 cp) 5 (intC (tolds 5)), rowP 29 1 (.slice p1 (psU sa 5).length c1) (psU sa 5).length (intC ((psU sa 5).map told)), rowP 2 1 (.slice p2 (psU sa 5).length c2) (psU sa 5).length (intC (List.replicate (psU sa 5).length 0)), blkP r1 78 #[.slice p1 (psU sa 5).length c1, .slice p2 (psU sa 5).length c2, .int .i64 1, .int .i64 0, .int .i64 (200 + 10 * ((rvSet sa 98).hd : Int)), .int .i64 98], rowP 29 1 (.slice p3 (psU sb 5).length c3) (psU sb 5).length (intC ((psU sb 5).map told)), rowP 2 1 (.slice p4 (psU sb 5).length c4) (psU sb 5).length (intC (List.replicate (psU sb 5).length 0)), blkP r2 78 #[.slice p3 (psU sb 5).length c3, .slice p4 (psU sb 5).length c4, .int .i64 1, .int .i64 0, .int .i64 (200 + 10 * ((rvSet sb 99).hd : Int)), .int .i64 99]]) := by
              obtain ⟨Y, hs⟩ := HS3.out
              have := hs.heap.first
              rw [← List.append_assoc] at this
              exact this.first
            have HH := Lib.hid H0
            clear H0 HS3
            go_wp2_with fail
            clear fc fc2
            go_loopw [150] (fun i wr => ∃ k : Nat, i = .int .i64 (k : Nat) ∧ k ≤ 5 ∧ Hid (Heap w wr (wdL c (h2W (rvSet sa 98) (rvSet sb 99) ep4 x8) ++ [rowP 29 1 (.slice a0 5 cp) 5 (intC (tolds 5)), rowP 29 1 (.slice p1 (psU sa 5).length c1) (psU sa 5).length (intC ((psU sa 5).map told)), rowP 2 1 (.slice p2 (psU sa 5).length c2) (psU sa 5).length (intC (List.replicate (psU sa 5).length 0)), blkP r1 78 #[.slice p1 (psU sa 5).length c1, .slice p2 (psU sa 5).length c2, .int .i64 1, .int .i64 0, .int .i64 (200 + 10 * ((rvSet sa 98).hd : Int)), .int .i64 98], rowP 29 1 (.slice p3 (psU sb 5).length c3) (psU sb 5).length (intC ((psU sb 5).map told)), rowP 2 1 (.slice p4 (psU sb 5).length c4) (psU sb 5).length (intC (List.replicate (psU sb 5).length 0)), blkP r2 78 #[.slice p3 (psU sb 5).length c3, .slice p4 (psU sb 5).length c4, .int .i64 1, .int .i64 0, .int .i64 (200 + 10 * ((rvSet sb 99).hd : Int)), .int .i64 99]]))) (fun i _ => 5 - (intOf i).toNat)
            case atStart => exact ⟨0, rfl, Nat.zero_le _, HH⟩
            case round =>
              clear HH
              obtain ⟨k, rfl, hk, HH⟩ := hrel
              by_cases hlt : k < 5
              · obtain ⟨v0, v1, v2, v3, v4, v5⟩ := wdL_cells HH.out
                obtain ⟨g9, ee, hcc, hat⟩ := (HH.out.row 4 (t := 29) (sz := 1) (n := 5) (v := .slice a0 5 cp) (us := intC (tolds 5)) rfl).rdv.at (by omega)
                have ee : a0 = some g9 := by simpa using ee
                subst ee
                have y1 := hat k _ (tolds_get hlt)
                have hA := rv_hd PA.out
                have hB := rv_hd PB.out
                have l1 : 0 < (psU sa 5).length := PA.out.l1
                have l2 : 0 < (psU sb 5).length := PB.out.l1
                have q1 := (HH.out.blk 7 (b := r1) (t := 78) (c := #[.slice p1 (psU sa 5).length c1, .slice p2 (psU sa 5).length c2, .int .i64 1, .int .i64 0, .int .i64 (200 + 10 * ((rvSet sa 98).hd : Int)), .int .i64 98]) rfl).cell 0
                have q2 := (HH.out.blk 10 (b := r2) (t := 78) (c := #[.slice p3 (psU sb 5).length c3, .slice p4 (psU sb 5).length c4, .int .i64 1, .int .i64 0, .int .i64 (200 + 10 * ((rvSet sb 99).hd : Int)), .int .i64 99]) rfl).cell 0
                obtain ⟨g1, ee1, hc1, hat1⟩ := (HH.out.row 5 (t := 29) (sz := 1) (n := (psU sa 5).length) (v := .slice p1 (psU sa 5).length c1) (us := intC ((psU sa 5).map told)) rfl).rdv.at l1
                have ee1 : p1 = some g1 := by simpa using ee1
                subst ee1
                have z1 : World.cell? _ g1 = some (.int .i64 (told (rvSet sa 98).hd)) := hat1 0 _ hA.1
                obtain ⟨g2, ee2, hc2, hat2⟩ := (HH.out.row 8 (t := 29) (sz := 1) (n := (psU sb 5).length) (v := .slice p3 (psU sb 5).length c3) (us := intC ((psU sb 5).map told)) rfl).rdv.at l2
                have ee2 : p3 = some g2 := by simpa using ee2
                subst ee2
                have z2 : World.cell? _ g2 = some (.int .i64 (told (rvSet sb 99).hd)) := hat2 0 _ hB.1
                obtain ⟨y, hy⟩ := rv_get HV.out hlt
                have hxl : x8.L.length ≤ 1000 := by rw [HV.out.len]; omega
                have okA : OkAr (h2W (rvSet sa 98) (rvSet sb 99) ep4 x8).ar := (nkS_ok (l := x8.L) (N := 10) (by rw [HV.out.len]; omega) (Nat.le_refl _)).ok (by omega)
                have CW := Way_q HH.out 1 rfl okA (told k) 0 (arAt_nk (l := x8.L) (by rw [HV.out.len]; exact hlt) hxl)
                rw [show (wayAr (told k) 0 (h2W (rvSet sa 98) (rvSet sb 99) ep4 x8).ar).1 = y.a from by show (wayAr (told k) 0 (nkS x8.L)).1 = _; rw [(nk_way hy hxl).1], rv_ways PA.out PB.out HV.out (.inl H12.out.1) (.inl H12.out.2) hy hlt] at CW
                have tA := told_beq hlt hA.2
                have tB := told_beq hlt hB.2
                clear hat hat1 hat2 hcc hc1 hc2 hxl okA hA hB hy
                by_cases eB : k = (rvSet sb 99).hd
                · by_cases eA : k = (rvSet sa 98).hd
                  · rw [decide_eq_true eB] at tB
                    rw [if_pos ⟨H12.out.2, eB⟩] at CW
                    rw [decide_eq_true eA] at tA
                    clear eA eB
                    have CW := Lib.hid CW
                    go_wp2_with fail
                    refine CW.out.mono ?_
                    rintro e w' ⟨rfl, hw⟩
                    have hw := hw.symm
                    subst hw
                    clear CW
                    go_wp2_with fail
                    exact ⟨⟨k + 1, by go_num, by omega, HH⟩, by simp [intOf]; omega⟩
                  · rw [decide_eq_true eB] at tB
                    rw [if_pos ⟨H12.out.2, eB⟩] at CW
                    rw [decide_eq_false eA] at tA
                    clear eA eB
                    have CW := Lib.hid CW
                    go_wp2_with fail
                    refine CW.out.mono ?_
                    rintro e w' ⟨rfl, hw⟩
                    have hw := hw.symm
                    subst hw
                    clear CW
                    go_wp2_with fail
                    exact ⟨⟨k + 1, by go_num, by omega, HH⟩, by simp [intOf]; omega⟩
                · by_cases eA : k = (rvSet sa 98).hd
                  · rw [decide_eq_false eB] at tB
                    rw [if_neg (fun h => eB h.2)] at CW
                    rw [if_pos ⟨H12.out.1, eA⟩] at CW
                    rw [decide_eq_true eA] at tA
                    clear eA eB
                    have CW := Lib.hid CW
                    go_wp2_with fail
                    refine CW.out.mono ?_
                    rintro e w' ⟨rfl, hw⟩
                    have hw := hw.symm
                    subst hw
                    clear CW
                    go_wp2_with fail
                    exact ⟨⟨k + 1, by go_num, by omega, HH⟩, by simp [intOf]; omega⟩
                  · rw [decide_eq_false eB] at tB
                    rw [if_neg (fun h => eB h.2)] at CW
                    rw [if_neg (fun h => eA h.2)] at CW
                    rw [decide_eq_false eA] at tA
                    clear eA eB
                    have CW := Lib.hid CW
                    go_wp2_with fail
                    refine CW.out.mono ?_
                    rintro e w' ⟨rfl, hw⟩
                    have hw := hw.symm
                    subst hw
                    clear CW
                    go_wp2_with fail
                    exact ⟨⟨k + 1, by go_num, by omega, HH⟩, by simp [intOf]; omega⟩
              · have hk5 : k = 5 := by omega
                subst hk5
                go_wp2_with fail
                go_ret
                exact ⟨rfl, HH.out.below⟩
          · have H12 := Lib.hid (And.intro h1 h2)
            rw [← bits_tmod ha hb] at hbc
            have fc : ((bits BinOp.and IntKind.u8 a b).tmod 32 == 0) = false := beq_eq_false_iff_ne.2 hbc
            have fc2 : ((bits BinOp.and IntKind.u8 a b).tmod 32 != 0) = true := by rw [bne, fc]; rfl
            have FC := Lib.hid (And.intro fc fc2)
            clear h1 h2 hbc fc fc2
            have hH := HS.out.heap
            rw [List.append_assoc] at hH
            obtain ⟨v0, v1, v2, v3, v4, v5⟩ := wdL_cells hH
            have HHH := Lib.hid hH
            have CST := Lib.hid (show ∀ (z : World) (n : Int) (L : List Piece), n = 1 ∨ n = 2 → Heap w z (wdL c (h2W (rvSet sa 98) (rvSet sb 99) ep4 x8) ++ L) → Calls Try.prog 56 #[.pointer (some ⟨c.rb, 0, none⟩), .int .i64 n] z (fun e w' => e = .returned (.int .u8 (if n = 1 then 2 else 0)) ∧ w' = z) from fun z n L hn hz => by
              have C := State_h hz 2 rfl n
              rcases hn with rfl | rfl
              · rw [show stateRt 1 (h2W (rvSet sa 98) (rvSet sb 99) ep4 x8).rt = 2 from H12.out.1] at C
                exact C
              · rw [show stateRt 2 (h2W (rvSet sa 98) (rvSet sb 99) ep4 x8).rt = 0 from H12.out.2] at C
                exact C)
            clear hH
            go_upto_region 13 with fail
            go_cut [16, 17] (fun s16 s17 wx => s16 = .bool true ∧ s17 = .bool false ∧ ∃ k, wx = w9.drewN k)
            case first =>
              go_quiet ((first
                | (go_at_call 56; exact Calls.quiet_of_same (CST.out _ _ _ (by first | exact Or.inl rfl | exact Or.inr rfl) (HHH.out.drewN _)))))
              go_wp2_with fail
              go_meet
              exact ⟨rfl, rfl, _, rfl⟩
            case rest =>
            obtain ⟨rfl, rfl, nq, hwx⟩ := hcut
            clear CST HHH v0 v1 v2 v3 v4 v5
            rename World => w99
            have HS0 : Hid (∃ Y, Squad (rvG (rvSet sa 98) (rvSet sb 99) ep4 who2) c w (rvWs 0 [(n0, b0), (n1, b1), (n2, b2)]) [rowP 29 1 (.slice a0 5 cp) 5 (intC (tolds 5)), rowP 29 1 (.slice p1 (psU sa 5).length c1) (psU sa 5).length (intC ((psU sa 5).map told)), rowP 2 1 (.slice p2 (psU sa 5).length c2) (psU sa 5).length (intC (List.replicate (psU sa 5).length 0)), blkP r1 78 #[.slice p1 (psU sa 5).length c1, .slice p2 (psU sa 5).length c2, .int .i64 1, .int .i64 0, .int .i64 (200 + 10 * ((rvSet sa 98).hd : Int)), .int .i64 98], rowP 29 1 (.slice p3 (psU sb 5).length c3) (psU sb 5).length (intC ((psU sb 5).map told)), rowP 2 1 (.slice p4 (psU sb 5).length c4) (psU sb 5).length (intC (List.replicate (psU sb 5).length 0)), blkP r2 78 #[.slice p3 (psU sb 5).length c3, .slice p4 (psU sb 5).length c4, .int .i64 1, .int .i64 0, .int .i64 (200 + 10 * ((rvSet sb 99).hd : Int)), .int .i64 99]] w99 N8 (h2W (rvSet sa 98) (rvSet sb 99) ep4 x8) Ts8 ([rowP 38 1 (.slice (some ⟨bl, 0, none⟩) 3 3) 3 (ptrs (rvWs 0 [(n0, b0), (n1, b1), (n2, b2)]))] ++ Y)) := Lib.hid ⟨_, by rw [hwx]; exact HS.out.same (HS.out.heap.drewN _)⟩
            clear HS hwx
            obtain ⟨Y20, hs⟩ := HS0.out
            have hrw := hs.row (j := 0) (t := 38) (sz := 1) (n := 3) (v := .slice (some ⟨bl, 0, none⟩) 3 3) (us := ptrs (rvWs 0 [(n0, b0), (n1, b1), (n2, b2)])) rfl
            obtain ⟨ag9, ao9, _, ea2, _, _, hat2⟩ := hrw.at (by omega)
            injection ea2 with ea2
            injection ea2 with ea2 eo2
            subst ea2
            subst eo2
            have y0 : World.cell? _ ⟨bl, 0, none⟩ = some (.pointer (some ⟨b0 + 3, 0, none⟩)) := hat2 0 _ rfl
            clear hrw
            have CY := Lib.hid (rv_yes hs HD.out (i := 0) (q := (n0, b0)) rfl true (by show decide (x8.s1 = 2) = _; rw [H12.out.1]; rfl))
            clear hs hat2 HS0
            go_wp2_with fail
            refine CY.out.mono ?_
            rintro e w10 ⟨rfl, Y30, H40⟩
            clear CY y0
            have HS1 : Hid (∃ Y, Squad (rvG (rvSet sa 98) (rvSet sb 99) ep4 who2) c w (rvWs 0 [(n0, b0), (n1, b1), (n2, b2)]) [rowP 29 1 (.slice a0 5 cp) 5 (intC (tolds 5)), rowP 29 1 (.slice p1 (psU sa 5).length c1) (psU sa 5).length (intC ((psU sa 5).map told)), rowP 2 1 (.slice p2 (psU sa 5).length c2) (psU sa 5).length (intC (List.replicate (psU sa 5).length 0)), blkP r1 78 #[.slice p1 (psU sa 5).length c1, .slice p2 (psU sa 5).length c2, .int .i64 1, .int .i64 0, .int .i64 (200 + 10 * ((rvSet sa 98).hd : Int)), .int .i64 98], rowP 29 1 (.slice p3 (psU sb 5).length c3) (psU sb 5).length (intC ((psU sb 5).map told)), rowP 2 1 (.slice p4 (psU sb 5).length c4) (psU sb 5).length (intC (List.replicate (psU sb 5).length 0)), blkP r2 78 #[.slice p3 (psU sb 5).length c3, .slice p4 (psU sb 5).length c4, .int .i64 1, .int .i64 0, .int .i64 (200 + 10 * ((rvSet sb 99).hd : Int)), .int .i64 99]] w10 N8 (h2W (rvSet sa 98) (rvSet sb 99) ep4 x8) Ts8 ([rowP 38 1 (.slice (some ⟨bl, 0, none⟩) 3 3) 3 (ptrs (rvWs 0 [(n0, b0), (n1, b1), (n2, b2)]))] ++ Y)) := Lib.hid ⟨_, by rw [List.append_assoc] at H40; exact H40⟩
            clear H40
            obtain ⟨Y21, hs⟩ := HS1.out
            have hrw := hs.row (j := 0) (t := 38) (sz := 1) (n := 3) (v := .slice (some ⟨bl, 0, none⟩) 3 3) (us := ptrs (rvWs 0 [(n0, b0), (n1, b1), (n2, b2)])) rfl
            obtain ⟨ag9, ao9, _, ea2, _, _, hat2⟩ := hrw.at (by omega)
            injection ea2 with ea2
            injection ea2 with ea2 eo2
            subst ea2
            subst eo2
            have y1 : World.cell? _ ⟨bl, 1, none⟩ = some (.pointer (some ⟨b1 + 3, 0, none⟩)) := hat2 1 _ rfl
            clear hrw
            have CY := Lib.hid (rv_yes hs HD.out (i := 1) (q := (n1, b1)) rfl false (by show decide (x8.s2 = 2) = _; rw [H12.out.2]; rfl))
            clear hs hat2 HS1
            go_wp2_with fail
            refine CY.out.mono ?_
            rintro e w11 ⟨rfl, Y31, H41⟩
            clear CY y1
            have HS2 : Hid (∃ Y, Squad (rvG (rvSet sa 98) (rvSet sb 99) ep4 who2) c w (rvWs 0 [(n0, b0), (n1, b1), (n2, b2)]) [rowP 29 1 (.slice a0 5 cp) 5 (intC (tolds 5)), rowP 29 1 (.slice p1 (psU sa 5).length c1) (psU sa 5).length (intC ((psU sa 5).map told)), rowP 2 1 (.slice p2 (psU sa 5).length c2) (psU sa 5).length (intC (List.replicate (psU sa 5).length 0)), blkP r1 78 #[.slice p1 (psU sa 5).length c1, .slice p2 (psU sa 5).length c2, .int .i64 1, .int .i64 0, .int .i64 (200 + 10 * ((rvSet sa 98).hd : Int)), .int .i64 98], rowP 29 1 (.slice p3 (psU sb 5).length c3) (psU sb 5).length (intC ((psU sb 5).map told)), rowP 2 1 (.slice p4 (psU sb 5).length c4) (psU sb 5).length (intC (List.replicate (psU sb 5).length 0)), blkP r2 78 #[.slice p3 (psU sb 5).length c3, .slice p4 (psU sb 5).length c4, .int .i64 1, .int .i64 0, .int .i64 (200 + 10 * ((rvSet sb 99).hd : Int)), .int .i64 99]] w11 N8 (h2W (rvSet sa 98) (rvSet sb 99) ep4 x8) Ts8 ([rowP 38 1 (.slice (some ⟨bl, 0, none⟩) 3 3) 3 (ptrs (rvWs 0 [(n0, b0), (n1, b1), (n2, b2)]))] ++ Y)) := Lib.hid ⟨_, by rw [List.append_assoc] at H41; exact H41⟩
            clear H41
            obtain ⟨Y22, hs⟩ := HS2.out
            have hrw := hs.row (j := 0) (t := 38) (sz := 1) (n := 3) (v := .slice (some ⟨bl, 0, none⟩) 3 3) (us := ptrs (rvWs 0 [(n0, b0), (n1, b1), (n2, b2)])) rfl
            obtain ⟨ag9, ao9, _, ea2, _, _, hat2⟩ := hrw.at (by omega)
            injection ea2 with ea2
            injection ea2 with ea2 eo2
            subst ea2
            subst eo2
            have y2 : World.cell? _ ⟨bl, 2, none⟩ = some (.pointer (some ⟨b2 + 3, 0, none⟩)) := hat2 2 _ rfl
            clear hrw
            have CY := Lib.hid (rv_yes hs HD.out (i := 2) (q := (n2, b2)) rfl true (by show decide (x8.s1 = 2) = _; rw [H12.out.1]; rfl))
            clear hs hat2 HS2
            go_wp2_with fail
            refine CY.out.mono ?_
            rintro e w12 ⟨rfl, Y32, H42⟩
            clear CY y2
            have HS3 : Hid (∃ Y, Squad (rvG (rvSet sa 98) (rvSet sb 99) ep4 who2) c w (rvWs 0 [(n0, b0), (n1, b1), (n2, b2)]) [rowP 29 1 (.slice a0 5 cp) 5 (intC (tolds 5)), rowP 29 1 (.slice p1 (psU sa 5).length c1) (psU sa 5).length (intC ((psU sa 5).map told)), rowP 2 1 (.slice p2 (psU sa 5).length c2) (psU sa 5).length (intC (List.replicate (psU sa 5).length 0)), blkP r1 78 #[.slice p1 (psU sa 5).length c1, .slice p2 (psU sa 5).length c2, .int .i64 1, .int .i64 0, .int .i64 (200 + 10 * ((rvSet sa 98).hd : Int)), .int .i64 98], rowP 29 1 (.slice p3 (psU sb 5).length c3) (psU sb 5).length (intC ((psU sb 5).map told)), rowP 2 1 (.slice p4 (psU sb 5).length c4) (psU sb 5).length (intC (List.replicate (psU sb 5).length 0)), blkP r2 78 #[.slice p3 (psU sb 5).length c3, .slice p4 (psU sb 5).length c4, .int .i64 1, .int .i64 0, .int .i64 (200 + 10 * ((rvSet sb 99).hd : Int)), .int .i64 99]] w12 N8 (h2W (rvSet sa 98) (rvSet sb 99) ep4 x8) Ts8 ([rowP 38 1 (.slice (some ⟨bl, 0, none⟩) 3 3) 3 (ptrs (rvWs 0 [(n0, b0), (n1, b1), (n2, b2)]))] ++ Y)) := Lib.hid ⟨_, by rw [List.append_assoc] at H42; exact H42⟩
            clear H42
            obtain ⟨fc, fc2⟩ := FC.out
            have H0 : Heap w w12 (wdL c (h2W (rvSet sa 98) (rvSet sb 99) ep4 x8) ++ [rowP 29 1 (.slice a0 5 cp) 5 (intC (tolds 5)), rowP 29 1 (.slice p1 (psU sa 5).length c1) (psU sa 5).length (intC ((psU sa 5).map told)), rowP 2 1 (.slice p2 (psU sa 5).length c2) (psU sa 5).length (intC (List.replicate (psU sa 5).length 0)), blkP r1 78 #[.slice p1 (psU sa 5).length c1, .slice p2 (psU sa 5).length c2, .int .i64 1, .int .i64 0, .int .i64 (200 + 10 * ((rvSet sa 98).hd : Int)), .int .i64 98], rowP 29 1 (.slice p3 (psU sb 5).length c3) (psU sb 5).length (intC ((psU sb 5).map told)), rowP 2 1 (.slice p4 (psU sb 5).length c4) (psU sb 5).length (intC (List.replicate (psU sb 5).length 0)), blkP r2 78 #[.slice p3 (psU sb 5).length c3, .slice p4 (psU sb 5).length c4, .int .i64 1, .int .i64 0, .int .i64 (200 + 10 * ((rvSet sb 99).hd : Int)), .int .i64 99]]) := by
              obtain ⟨Y, hs⟩ := HS3.out
              have := hs.heap.first
              rw [← List.append_assoc] at this
              exact this.first
            have HH := Lib.hid H0
            clear H0 HS3
            go_wp2_with fail
            clear fc fc2
            go_loopw [150] (fun i wr => ∃ k : Nat, i = .int .i64 (k : Nat) ∧ k ≤ 5 ∧ Hid (Heap w wr (wdL c (h2W (rvSet sa 98) (rvSet sb 99) ep4 x8) ++ [rowP 29 1 (.slice a0 5 cp) 5 (intC (tolds 5)), rowP 29 1 (.slice p1 (psU sa 5).length c1) (psU sa 5).length (intC ((psU sa 5).map told)), rowP 2 1 (.slice p2 (psU sa 5).length c2) (psU sa 5).length (intC (List.replicate (psU sa 5).length 0)), blkP r1 78 #[.slice p1 (psU sa 5).length c1, .slice p2 (psU sa 5).length c2, .int .i64 1, .int .i64 0, .int .i64 (200 + 10 * ((rvSet sa 98).hd : Int)), .int .i64 98], rowP 29 1 (.slice p3 (psU sb 5).length c3) (psU sb 5).length (intC ((psU sb 5).map told)), rowP 2 1 (.slice p4 (psU sb 5).length c4) (psU sb 5).length (intC (List.replicate (psU sb 5).length 0)), blkP r2 78 #[.slice p3 (psU sb 5).length c3, .slice p4 (psU sb 5).length c4, .int .i64 1, .int .i64 0, .int .i64 (200 + 10 * ((rvSet sb 99).hd : Int)), .int .i64 99]]))) (fun i _ => 5 - (intOf i).toNat)
            case atStart => exact ⟨0, rfl, Nat.zero_le _, HH⟩
            case round =>
              clear HH
              obtain ⟨k, rfl, hk, HH⟩ := hrel
              by_cases hlt : k < 5
              · obtain ⟨v0, v1, v2, v3, v4, v5⟩ := wdL_cells HH.out
                obtain ⟨g9, ee, hcc, hat⟩ := (HH.out.row 4 (t := 29) (sz := 1) (n := 5) (v := .slice a0 5 cp) (us := intC (tolds 5)) rfl).rdv.at (by omega)
                have ee : a0 = some g9 := by simpa using ee
                subst ee
                have y1 := hat k _ (tolds_get hlt)
                have hA := rv_hd PA.out
                have hB := rv_hd PB.out
                have l1 : 0 < (psU sa 5).length := PA.out.l1
                have l2 : 0 < (psU sb 5).length := PB.out.l1
                have q1 := (HH.out.blk 7 (b := r1) (t := 78) (c := #[.slice p1 (psU sa 5).length c1, .slice p2 (psU sa 5).length c2, .int .i64 1, .int .i64 0, .int .i64 (200 + 10 * ((rvSet sa 98).hd : Int)), .int .i64 98]) rfl).cell 0
                have q2 := (HH.out.blk 10 (b := r2) (t := 78) (c := #[.slice p3 (psU sb 5).length c3, .slice p4 (psU sb 5).length c4, .int .i64 1, .int .i64 0, .int .i64 (200 + 10 * ((rvSet sb 99).hd : Int)), .int .i64 99]) rfl).cell 0
                obtain ⟨g1, ee1, hc1, hat1⟩ := (HH.out.row 5 (t := 29) (sz := 1) (n := (psU sa 5).length) (v := .slice p1 (psU sa 5).length c1) (us := intC ((psU sa 5).map told)) rfl).rdv.at l1
                have ee1 : p1 = some g1 := by simpa using ee1
                subst ee1
                have z1 : World.cell? _ g1 = some (.int .i64 (told (rvSet sa 98).hd)) := hat1 0 _ hA.1
                obtain ⟨g2, ee2, hc2, hat2⟩ := (HH.out.row 8 (t := 29) (sz := 1) (n := (psU sb 5).length) (v := .slice p3 (psU sb 5).length c3) (us := intC ((psU sb 5).map told)) rfl).rdv.at l2
                have ee2 : p3 = some g2 := by simpa using ee2
                subst ee2
                have z2 : World.cell? _ g2 = some (.int .i64 (told (rvSet sb 99).hd)) := hat2 0 _ hB.1
                obtain ⟨y, hy⟩ := rv_get HV.out hlt
                have hxl : x8.L.length ≤ 1000 := by rw [HV.out.len]; omega
                have okA : OkAr (h2W (rvSet sa 98) (rvSet sb 99) ep4 x8).ar := (nkS_ok (l := x8.L) (N := 10) (by rw [HV.out.len]; omega) (Nat.le_refl _)).ok (by omega)
                have CW := Way_q HH.out 1 rfl okA (told k) 0 (arAt_nk (l := x8.L) (by rw [HV.out.len]; exact hlt) hxl)
                rw [show (wayAr (told k) 0 (h2W (rvSet sa 98) (rvSet sb 99) ep4 x8).ar).1 = y.a from by show (wayAr (told k) 0 (nkS x8.L)).1 = _; rw [(nk_way hy hxl).1], rv_ways PA.out PB.out HV.out (.inl H12.out.1) (.inr H12.out.2) hy hlt] at CW
                have tA := told_beq hlt hA.2
                have tB := told_beq hlt hB.2
                clear hat hat1 hat2 hcc hc1 hc2 hxl okA hA hB hy
                rw [if_neg (fun h => absurd h.1 (by rw [H12.out.2]; decide))] at CW
                by_cases eA : k = (rvSet sa 98).hd
                · rw [if_pos ⟨H12.out.1, eA⟩] at CW
                  rw [decide_eq_true eA] at tA
                  clear eA tB
                  have CW := Lib.hid CW
                  go_wp2_with fail
                  refine CW.out.mono ?_
                  rintro e w' ⟨rfl, hw⟩
                  have hw := hw.symm
                  subst hw
                  clear CW
                  go_wp2_with fail
                  exact ⟨⟨k + 1, by go_num, by omega, HH⟩, by simp [intOf]; omega⟩
                · rw [if_neg (fun h => eA h.2)] at CW
                  rw [decide_eq_false eA] at tA
                  clear eA tB
                  have CW := Lib.hid CW
                  go_wp2_with fail
                  refine CW.out.mono ?_
                  rintro e w' ⟨rfl, hw⟩
                  have hw := hw.symm
                  subst hw
                  clear CW
                  go_wp2_with fail
                  exact ⟨⟨k + 1, by go_num, by omega, HH⟩, by simp [intOf]; omega⟩
              · have hk5 : k = 5 := by omega
                subst hk5
                go_wp2_with fail
                go_ret
                exact ⟨rfl, HH.out.below⟩
          · have H12 := Lib.hid (And.intro h1 h2)
            rw [← bits_tmod ha hb] at hbc
            have fc : ((bits BinOp.and IntKind.u8 a b).tmod 32 == 0) = false := beq_eq_false_iff_ne.2 hbc
            have fc2 : ((bits BinOp.and IntKind.u8 a b).tmod 32 != 0) = true := by rw [bne, fc]; rfl
            have FC := Lib.hid (And.intro fc fc2)
            clear h1 h2 hbc fc fc2
            have hH := HS.out.heap
            rw [List.append_assoc] at hH
            obtain ⟨v0, v1, v2, v3, v4, v5⟩ := wdL_cells hH
            have HHH := Lib.hid hH
            have CST := Lib.hid (show ∀ (z : World) (n : Int) (L : List Piece), n = 1 ∨ n = 2 → Heap w z (wdL c (h2W (rvSet sa 98) (rvSet sb 99) ep4 x8) ++ L) → Calls Try.prog 56 #[.pointer (some ⟨c.rb, 0, none⟩), .int .i64 n] z (fun e w' => e = .returned (.int .u8 (if n = 1 then 0 else 2)) ∧ w' = z) from fun z n L hn hz => by
              have C := State_h hz 2 rfl n
              rcases hn with rfl | rfl
              · rw [show stateRt 1 (h2W (rvSet sa 98) (rvSet sb 99) ep4 x8).rt = 0 from H12.out.1] at C
                exact C
              · rw [show stateRt 2 (h2W (rvSet sa 98) (rvSet sb 99) ep4 x8).rt = 2 from H12.out.2] at C
                exact C)
            clear hH
            go_upto_region 13 with fail
            go_cut [16, 17] (fun s16 s17 wx => s16 = .bool false ∧ s17 = .bool true ∧ ∃ k, wx = w9.drewN k)
            case first =>
              go_quiet ((first
                | (go_at_call 56; exact Calls.quiet_of_same (CST.out _ _ _ (by first | exact Or.inl rfl | exact Or.inr rfl) (HHH.out.drewN _)))))
              go_wp2_with fail
              go_meet
              exact ⟨rfl, rfl, _, rfl⟩
            case rest =>
            obtain ⟨rfl, rfl, nq, hwx⟩ := hcut
            clear CST HHH v0 v1 v2 v3 v4 v5
            rename World => w99
            have HS0 : Hid (∃ Y, Squad (rvG (rvSet sa 98) (rvSet sb 99) ep4 who2) c w (rvWs 0 [(n0, b0), (n1, b1), (n2, b2)]) [rowP 29 1 (.slice a0 5 cp) 5 (intC (tolds 5)), rowP 29 1 (.slice p1 (psU sa 5).length c1) (psU sa 5).length (intC ((psU sa 5).map told)), rowP 2 1 (.slice p2 (psU sa 5).length c2) (psU sa 5).length (intC (List.replicate (psU sa 5).length 0)), blkP r1 78 #[.slice p1 (psU sa 5).length c1, .slice p2 (psU sa 5).length c2, .int .i64 1, .int .i64 0, .int .i64 (200 + 10 * ((rvSet sa 98).hd : Int)), .int .i64 98], rowP 29 1 (.slice p3 (psU sb 5).length c3) (psU sb 5).length (intC ((psU sb 5).map told)), rowP 2 1 (.slice p4 (psU sb 5).length c4) (psU sb 5).length (intC (List.replicate (psU sb 5).length 0)), blkP r2 78 #[.slice p3 (psU sb 5).length c3, .slice p4 (psU sb 5).length c4, .int .i64 1, .int .i64 0, .int .i64 (200 + 10 * ((rvSet sb 99).hd : Int)), .int .i64 99]] w99 N8 (h2W (rvSet sa 98) (rvSet sb 99) ep4 x8) Ts8 ([rowP 38 1 (.slice (some ⟨bl, 0, none⟩) 3 3) 3 (ptrs (rvWs 0 [(n0, b0), (n1, b1), (n2, b2)]))] ++ Y)) := Lib.hid ⟨_, by rw [hwx]; exact HS.out.same (HS.out.heap.drewN _)⟩
            clear HS hwx
            obtain ⟨Y20, hs⟩ := HS0.out
            have hrw := hs.row (j := 0) (t := 38) (sz := 1) (n := 3) (v := .slice (some ⟨bl, 0, none⟩) 3 3) (us := ptrs (rvWs 0 [(n0, b0), (n1, b1), (n2, b2)])) rfl
            obtain ⟨ag9, ao9, _, ea2, _, _, hat2⟩ := hrw.at (by omega)
            injection ea2 with ea2
            injection ea2 with ea2 eo2
            subst ea2
            subst eo2
            have y0 : World.cell? _ ⟨bl, 0, none⟩ = some (.pointer (some ⟨b0 + 3, 0, none⟩)) := hat2 0 _ rfl
            clear hrw
            have CY := Lib.hid (rv_yes hs HD.out (i := 0) (q := (n0, b0)) rfl false (by show decide (x8.s1 = 2) = _; rw [H12.out.1]; rfl))
            clear hs hat2 HS0
            go_wp2_with fail
            refine CY.out.mono ?_
            rintro e w10 ⟨rfl, Y30, H40⟩
            clear CY y0
            have HS1 : Hid (∃ Y, Squad (rvG (rvSet sa 98) (rvSet sb 99) ep4 who2) c w (rvWs 0 [(n0, b0), (n1, b1), (n2, b2)]) [rowP 29 1 (.slice a0 5 cp) 5 (intC (tolds 5)), rowP 29 1 (.slice p1 (psU sa 5).length c1) (psU sa 5).length (intC ((psU sa 5).map told)), rowP 2 1 (.slice p2 (psU sa 5).length c2) (psU sa 5).length (intC (List.replicate (psU sa 5).length 0)), blkP r1 78 #[.slice p1 (psU sa 5).length c1, .slice p2 (psU sa 5).length c2, .int .i64 1, .int .i64 0, .int .i64 (200 + 10 * ((rvSet sa 98).hd : Int)), .int .i64 98], rowP 29 1 (.slice p3 (psU sb 5).length c3) (psU sb 5).length (intC ((psU sb 5).map told)), rowP 2 1 (.slice p4 (psU sb 5).length c4) (psU sb 5).length (intC (List.replicate (psU sb 5).length 0)), blkP r2 78 #[.slice p3 (psU sb 5).length c3, .slice p4 (psU sb 5).length c4, .int .i64 1, .int .i64 0, .int .i64 (200 + 10 * ((rvSet sb 99).hd : Int)), .int .i64 99]] w10 N8 (h2W (rvSet sa 98) (rvSet sb 99) ep4 x8) Ts8 ([rowP 38 1 (.slice (some ⟨bl, 0, none⟩) 3 3) 3 (ptrs (rvWs 0 [(n0, b0), (n1, b1), (n2, b2)]))] ++ Y)) := Lib.hid ⟨_, by rw [List.append_assoc] at H40; exact H40⟩
            clear H40
            obtain ⟨Y21, hs⟩ := HS1.out
            have hrw := hs.row (j := 0) (t := 38) (sz := 1) (n := 3) (v := .slice (some ⟨bl, 0, none⟩) 3 3) (us := ptrs (rvWs 0 [(n0, b0), (n1, b1), (n2, b2)])) rfl
            obtain ⟨ag9, ao9, _, ea2, _, _, hat2⟩ := hrw.at (by omega)
            injection ea2 with ea2
            injection ea2 with ea2 eo2
            subst ea2
            subst eo2
            have y1 : World.cell? _ ⟨bl, 1, none⟩ = some (.pointer (some ⟨b1 + 3, 0, none⟩)) := hat2 1 _ rfl
            clear hrw
            have CY := Lib.hid (rv_yes hs HD.out (i := 1) (q := (n1, b1)) rfl true (by show decide (x8.s2 = 2) = _; rw [H12.out.2]; rfl))
            clear hs hat2 HS1
            go_wp2_with fail
            refine CY.out.mono ?_
            rintro e w11 ⟨rfl, Y31, H41⟩
            clear CY y1
            have HS2 : Hid (∃ Y, Squad (rvG (rvSet sa 98) (rvSet sb 99) ep4 who2) c w (rvWs 0 [(n0, b0), (n1, b1), (n2, b2)]) [rowP 29 1 (.slice a0 5 cp) 5 (intC (tolds 5)), rowP 29 1 (.slice p1 (psU sa 5).length c1) (psU sa 5).length (intC ((psU sa 5).map told)), rowP 2 1 (.slice p2 (psU sa 5).length c2) (psU sa 5).length (intC (List.replicate (psU sa 5).length 0)), blkP r1 78 #[.slice p1 (psU sa 5).length c1, .slice p2 (psU sa 5).length c2, .int .i64 1, .int .i64 0, .int .i64 (200 + 10 * ((rvSet sa 98).hd : Int)), .int .i64 98], rowP 29 1 (.slice p3 (psU sb 5).length c3) (psU sb 5).length (intC ((psU sb 5).map told)), rowP 2 1 (.slice p4 (psU sb 5).length c4) (psU sb 5).length (intC (List.replicate (psU sb 5).length 0)), blkP r2 78 #[.slice p3 (psU sb 5).length c3, .slice p4 (psU sb 5).length c4, .int .i64 1, .int .i64 0, .int .i64 (200 + 10 * ((rvSet sb 99).hd : Int)), .int .i64 99]] w11 N8 (h2W (rvSet sa 98) (rvSet sb 99) ep4 x8) Ts8 ([rowP 38 1 (.slice (some ⟨bl, 0, none⟩) 3 3) 3 (ptrs (rvWs 0 [(n0, b0), (n1, b1), (n2, b2)]))] ++ Y)) := Lib.hid ⟨_, by rw [List.append_assoc] at H41; exact H41⟩
            clear H41
            obtain ⟨Y22, hs⟩ := HS2.out
            have hrw := hs.row (j := 0) (t := 38) (sz := 1) (n := 3) (v := .slice (some ⟨bl, 0, none⟩) 3 3) (us := ptrs (rvWs 0 [(n0, b0), (n1, b1), (n2, b2)])) rfl
            obtain ⟨ag9, ao9, _, ea2, _, _, hat2⟩ := hrw.at (by omega)
            injection ea2 with ea2
            injection ea2 with ea2 eo2
            subst ea2
            subst eo2
            have y2 : World.cell? _ ⟨bl, 2, none⟩ = some (.pointer (some ⟨b2 + 3, 0, none⟩)) := hat2 2 _ rfl
            clear hrw
            have CY := Lib.hid (rv_yes hs HD.out (i := 2) (q := (n2, b2)) rfl false (by show decide (x8.s1 = 2) = _; rw [H12.out.1]; rfl))
            clear hs hat2 HS2
            go_wp2_with fail
            refine CY.out.mono ?_
            rintro e w12 ⟨rfl, Y32, H42⟩
            clear CY y2
            have HS3 : Hid (∃ Y, Squad (rvG (rvSet sa 98) (rvSet sb 99) ep4 who2) c w (rvWs 0 [(n0, b0), (n1, b1), (n2, b2)]) [rowP 29 1 (.slice a0 5 cp) 5 (intC (tolds 5)), rowP 29 1 (.slice p1 (psU sa 5).length c1) (psU sa 5).length (intC ((psU sa 5).map told)), rowP 2 1 (.slice p2 (psU sa 5).length c2) (psU sa 5).length (intC (List.replicate (psU sa 5).length 0)), blkP r1 78 #[.slice p1 (psU sa 5).length c1, .slice p2 (psU sa 5).length c2, .int .i64 1, .int .i64 0, .int .i64 (200 + 10 * ((rvSet sa 98).hd : Int)), .int .i64 98], rowP 29 1 (.slice p3 (psU sb 5).length c3) (psU sb 5).length (intC ((psU sb 5).map told)), rowP 2 1 (.slice p4 (psU sb 5).length c4) (psU sb 5).length (intC (List.replicate (psU sb 5).length 0)), blkP r2 78 #[.slice p3 (psU sb 5).length c3, .slice p4 (psU sb 5).length c4, .int .i64 1, .int .i64 0, .int .i64 (200 + 10 * ((rvSet sb 99).hd : Int)), .int .i64 99]] w12 N8 (h2W (rvSet sa 98) (rvSet sb 99) ep4 x8) Ts8 ([rowP 38 1 (.slice (some ⟨bl, 0, none⟩) 3 3) 3 (ptrs (rvWs 0 [(n0, b0), (n1, b1), (n2, b2)]))] ++ Y)) := Lib.hid ⟨_, by rw [List.append_assoc] at H42; exact H42⟩
            clear H42
            obtain ⟨fc, fc2⟩ := FC.out
            have H0 : Heap w w12 (wdL c (h2W (rvSet sa 98) (rvSet sb 99) ep4 x8) ++ [rowP 29 1 (.slice a0 5 cp) 5 (intC (tolds 5)), rowP 29 1 (.slice p1 (psU sa 5).length c1) (psU sa 5).length (intC ((psU sa 5).map told)), rowP 2 1 (.slice p2 (psU sa 5).length c2) (psU sa 5).length (intC (List.replicate (psU sa 5).length 0)), blkP r1 78 #[.slice p1 (psU sa 5).length c1, .slice p2 (psU sa 5).length c2, .int .i64 1, .int .i64 0, .int .i64 (200 + 10 * ((rvSet sa 98).hd : Int)), .int .i64 98], rowP 29 1 (.slice p3 (psU sb 5).length c3) (psU sb 5).length (intC ((psU sb 5).map told)), rowP 2 1 (.slice p4 (psU sb 5).length c4) (psU sb 5).length (intC (List.replicate (psU sb 5).length 0)), blkP r2 78 #[.slice p3 (psU sb 5).length c3, .slice p4 (psU sb 5).length c4, .int .i64 1, .int .i64 0, .int .i64 (200 + 10 * ((rvSet sb 99).hd : Int)), .int .i64 99]]) := by
              obtain ⟨Y, hs⟩ := HS3.out
              have := hs.heap.first
              rw [← List.append_assoc] at this
              exact this.first
            have HH := Lib.hid H0
            clear H0 HS3
            go_wp2_with fail
            clear fc fc2
            go_loopw [150] (fun i wr => ∃ k : Nat, i = .int .i64 (k : Nat) ∧ k ≤ 5 ∧ Hid (Heap w wr (wdL c (h2W (rvSet sa 98) (rvSet sb 99) ep4 x8) ++ [rowP 29 1 (.slice a0 5 cp) 5 (intC (tolds 5)), rowP 29 1 (.slice p1 (psU sa 5).length c1) (psU sa 5).length (intC ((psU sa 5).map told)), rowP 2 1 (.slice p2 (psU sa 5).length c2) (psU sa 5).length (intC (List.replicate (psU sa 5).length 0)), blkP r1 78 #[.slice p1 (psU sa 5).length c1, .slice p2 (psU sa 5).length c2, .int .i64 1, .int .i64 0, .int .i64 (200 + 10 * ((rvSet sa 98).hd : Int)), .int .i64 98], rowP 29 1 (.slice p3 (psU sb 5).length c3) (psU sb 5).length (intC ((psU sb 5).map told)), rowP 2 1 (.slice p4 (psU sb 5).length c4) (psU sb 5).length (intC (List.replicate (psU sb 5).length 0)), blkP r2 78 #[.slice p3 (psU sb 5).length c3, .slice p4 (psU sb 5).length c4, .int .i64 1, .int .i64 0, .int .i64 (200 + 10 * ((rvSet sb 99).hd : Int)), .int .i64 99]]))) (fun i _ => 5 - (intOf i).toNat)
            case atStart => exact ⟨0, rfl, Nat.zero_le _, HH⟩
            case round =>
              clear HH
              obtain ⟨k, rfl, hk, HH⟩ := hrel
              by_cases hlt : k < 5
              · obtain ⟨v0, v1, v2, v3, v4, v5⟩ := wdL_cells HH.out
                obtain ⟨g9, ee, hcc, hat⟩ := (HH.out.row 4 (t := 29) (sz := 1) (n := 5) (v := .slice a0 5 cp) (us := intC (tolds 5)) rfl).rdv.at (by omega)
                have ee : a0 = some g9 := by simpa using ee
                subst ee
                have y1 := hat k _ (tolds_get hlt)
                have hA := rv_hd PA.out
                have hB := rv_hd PB.out
                have l1 : 0 < (psU sa 5).length := PA.out.l1
                have l2 : 0 < (psU sb 5).length := PB.out.l1
                have q1 := (HH.out.blk 7 (b := r1) (t := 78) (c := #[.slice p1 (psU sa 5).length c1, .slice p2 (psU sa 5).length c2, .int .i64 1, .int .i64 0, .int .i64 (200 + 10 * ((rvSet sa 98).hd : Int)), .int .i64 98]) rfl).cell 0
                have q2 := (HH.out.blk 10 (b := r2) (t := 78) (c := #[.slice p3 (psU sb 5).length c3, .slice p4 (psU sb 5).length c4, .int .i64 1, .int .i64 0, .int .i64 (200 + 10 * ((rvSet sb 99).hd : Int)), .int .i64 99]) rfl).cell 0
                obtain ⟨g1, ee1, hc1, hat1⟩ := (HH.out.row 5 (t := 29) (sz := 1) (n := (psU sa 5).length) (v := .slice p1 (psU sa 5).length c1) (us := intC ((psU sa 5).map told)) rfl).rdv.at l1
                have ee1 : p1 = some g1 := by simpa using ee1
                subst ee1
                have z1 : World.cell? _ g1 = some (.int .i64 (told (rvSet sa 98).hd)) := hat1 0 _ hA.1
                obtain ⟨g2, ee2, hc2, hat2⟩ := (HH.out.row 8 (t := 29) (sz := 1) (n := (psU sb 5).length) (v := .slice p3 (psU sb 5).length c3) (us := intC ((psU sb 5).map told)) rfl).rdv.at l2
                have ee2 : p3 = some g2 := by simpa using ee2
                subst ee2
                have z2 : World.cell? _ g2 = some (.int .i64 (told (rvSet sb 99).hd)) := hat2 0 _ hB.1
                obtain ⟨y, hy⟩ := rv_get HV.out hlt
                have hxl : x8.L.length ≤ 1000 := by rw [HV.out.len]; omega
                have okA : OkAr (h2W (rvSet sa 98) (rvSet sb 99) ep4 x8).ar := (nkS_ok (l := x8.L) (N := 10) (by rw [HV.out.len]; omega) (Nat.le_refl _)).ok (by omega)
                have CW := Way_q HH.out 1 rfl okA (told k) 0 (arAt_nk (l := x8.L) (by rw [HV.out.len]; exact hlt) hxl)
                rw [show (wayAr (told k) 0 (h2W (rvSet sa 98) (rvSet sb 99) ep4 x8).ar).1 = y.a from by show (wayAr (told k) 0 (nkS x8.L)).1 = _; rw [(nk_way hy hxl).1], rv_ways PA.out PB.out HV.out (.inr H12.out.1) (.inl H12.out.2) hy hlt] at CW
                have tA := told_beq hlt hA.2
                have tB := told_beq hlt hB.2
                clear hat hat1 hat2 hcc hc1 hc2 hxl okA hA hB hy
                by_cases eB : k = (rvSet sb 99).hd
                · rw [decide_eq_true eB] at tB
                  rw [if_pos ⟨H12.out.2, eB⟩] at CW
                  clear eB tA
                  have CW := Lib.hid CW
                  go_wp2_with fail
                  refine CW.out.mono ?_
                  rintro e w' ⟨rfl, hw⟩
                  have hw := hw.symm
                  subst hw
                  clear CW
                  go_wp2_with fail
                  exact ⟨⟨k + 1, by go_num, by omega, HH⟩, by simp [intOf]; omega⟩
                · rw [decide_eq_false eB] at tB
                  rw [if_neg (fun h => eB h.2)] at CW
                  rw [if_neg (fun h => absurd h.1 (by rw [H12.out.1]; decide))] at CW
                  clear eB tA
                  have CW := Lib.hid CW
                  go_wp2_with fail
                  refine CW.out.mono ?_
                  rintro e w' ⟨rfl, hw⟩
                  have hw := hw.symm
                  subst hw
                  clear CW
                  go_wp2_with fail
                  exact ⟨⟨k + 1, by go_num, by omega, HH⟩, by simp [intOf]; omega⟩
              · have hk5 : k = 5 := by omega
                subst hk5
                go_wp2_with fail
                go_ret
                exact ⟨rfl, HH.out.below⟩
        | true =>
          have CH3 := Lib.hid (helper_start HK3.out c.wb 3 2)
          clear HK3
          go_wp2_with fail
          refine CH3.out.mono ?_
          rintro e x4 ⟨n3, b3, rfl, H7⟩
          clear CH3
          have H7 := (H7 c rfl).swapEnd
          have H7 : Heap w x4 ((wdL c (h2W (rvSet sa 98) (rvSet sb 99) ep4 rvX) ++ ([rowP 29 1 (.slice a0 5 cp) 5 (intC (tolds 5)), rowP 29 1 (.slice p1 (psU sa 5).length c1) (psU sa 5).length (intC ((psU sa 5).map told)), rowP 2 1 (.slice p2 (psU sa 5).length c2) (psU sa 5).length (intC (List.replicate (psU sa 5).length 0)), blkP r1 78 #[.slice p1 (psU sa 5).length c1, .slice p2 (psU sa 5).length c2, .int .i64 1, .int .i64 0, .int .i64 (200 + 10 * ((rvSet sa 98).hd : Int)), .int .i64 98], rowP 29 1 (.slice p3 (psU sb 5).length c3) (psU sb 5).length (intC ((psU sb 5).map told)), rowP 2 1 (.slice p4 (psU sb 5).length c4) (psU sb 5).length (intC (List.replicate (psU sb 5).length 0)), blkP r2 78 #[.slice p3 (psU sb 5).length c3, .slice p4 (psU sb 5).length c4, .int .i64 1, .int .i64 0, .int .i64 (200 + 10 * ((rvSet sb 99).hd : Int)), .int .i64 99]] ++ allG c (rvWs 0 [(n0, b0), (n1, b1), (n2, b2), (n3, b3)]) (rvTs [(n0, b0), (n1, b1), (n2, b2), (n3, b3)]))) ++ [rowP 38 1 (.slice (some ⟨bl, 0, none⟩) 3 3) 3 (ptrs (rvWs 0 [(n0, b0), (n1, b1), (n2, b2)]))]) := by
            simpa [allG, rvWs, rvTs, rvN, who2, List.append_assoc] using H7
          have HX := Lib.hid H7
          have QQ := Lib.hid (H7.row ((wdL c (h2W (rvSet sa 98) (rvSet sb 99) ep4 rvX) ++ ([rowP 29 1 (.slice a0 5 cp) 5 (intC (tolds 5)), rowP 29 1 (.slice p1 (psU sa 5).length c1) (psU sa 5).length (intC ((psU sa 5).map told)), rowP 2 1 (.slice p2 (psU sa 5).length c2) (psU sa 5).length (intC (List.replicate (psU sa 5).length 0)), blkP r1 78 #[.slice p1 (psU sa 5).length c1, .slice p2 (psU sa 5).length c2, .int .i64 1, .int .i64 0, .int .i64 (200 + 10 * ((rvSet sa 98).hd : Int)), .int .i64 98], rowP 29 1 (.slice p3 (psU sb 5).length c3) (psU sb 5).length (intC ((psU sb 5).map told)), rowP 2 1 (.slice p4 (psU sb 5).length c4) (psU sb 5).length (intC (List.replicate (psU sb 5).length 0)), blkP r2 78 #[.slice p3 (psU sb 5).length c3, .slice p4 (psU sb 5).length c4, .int .i64 1, .int .i64 0, .int .i64 (200 + 10 * ((rvSet sb 99).hd : Int)), .int .i64 99]] ++ allG c (rvWs 0 [(n0, b0), (n1, b1), (n2, b2), (n3, b3)]) (rvTs [(n0, b0), (n1, b1), (n2, b2), (n3, b3)]))).length) (t := 38) (sz := 1) (n := 3) (v := .slice (some ⟨bl, 0, none⟩) 3 3) (us := ptrs (rvWs 0 [(n0, b0), (n1, b1), (n2, b2)])) (by simp))
          have hlm : 3 + 1 ≤ maxLen := by decide
          have hlb : (3 + 1) * 8 ≤ 140737488355328 := by decide
          have HL := Lib.hid (And.intro hlm hlb)
          clear H7 hlm hlb
          go_wp2_with (at_builtin; refine wpList_append_typed _ rfl _ _ _ (by rfl) 38 i0 (.pointer none) 1 8 Try.underlying48 I0.out.1 I0.out.2.1 I0.out.2.2.1 I0.out.2.2.2 rfl (by decide) (.slice (some ⟨bl, 0, none⟩) 3 3) 3 (ptrs (rvWs 0 [(n0, b0), (n1, b1), (n2, b2)])) (by rfl) (QQ.out.fr (F := nob) (by repeat (first | exact Fr.refl _ _ | apply Fr.drew | apply Fr.alloc)) (fun _ _ _ x => x)) _ 1 [.pointer (some ⟨b3 + 3, 0, none⟩)] (by rfl) (RdV.block (cs := #[.pointer (some ⟨b3 + 3, 0, none⟩)]) (t := 38) (by repeat (first | exact Blk.new' rfl _ _ | apply Blk.drew | apply Blk.alloc)) rfl (by decide)) (by simp [Value.oneCell']) HL.out.1 HL.out.2 ?_)
          intro a9 c9 x5 q9 grow hat'
          have G9 := HX.out.growRow ((wdL c (h2W (rvSet sa 98) (rvSet sb 99) ep4 rvX) ++ ([rowP 29 1 (.slice a0 5 cp) 5 (intC (tolds 5)), rowP 29 1 (.slice p1 (psU sa 5).length c1) (psU sa 5).length (intC ((psU sa 5).map told)), rowP 2 1 (.slice p2 (psU sa 5).length c2) (psU sa 5).length (intC (List.replicate (psU sa 5).length 0)), blkP r1 78 #[.slice p1 (psU sa 5).length c1, .slice p2 (psU sa 5).length c2, .int .i64 1, .int .i64 0, .int .i64 (200 + 10 * ((rvSet sa 98).hd : Int)), .int .i64 98], rowP 29 1 (.slice p3 (psU sb 5).length c3) (psU sb 5).length (intC ((psU sb 5).map told)), rowP 2 1 (.slice p4 (psU sb 5).length c4) (psU sb 5).length (intC (List.replicate (psU sb 5).length 0)), blkP r2 78 #[.slice p3 (psU sb 5).length c3, .slice p4 (psU sb 5).length c4, .int .i64 1, .int .i64 0, .int .i64 (200 + 10 * ((rvSet sb 99).hd : Int)), .int .i64 99]] ++ allG c (rvWs 0 [(n0, b0), (n1, b1), (n2, b2), (n3, b3)]) (rvTs [(n0, b0), (n1, b1), (n2, b2), (n3, b3)]))).length) (t := 38) (sz := 1) (n := 3) (v := .slice (some ⟨bl, 0, none⟩) 3 3) (us := ptrs (rvWs 0 [(n0, b0), (n1, b1), (n2, b2)])) (by simp) (Fr.alloc (Fr.refl nob x4) (.cells #[.pointer (some ⟨b3 + 3, 0, none⟩)] 38)) q9 grow (fun g hg => (hat' g hg).imp_left (fun h => h.imp_right (fun h => by simpa using h)))
          rw [List.set_append_right _ _ (Nat.le_refl _), Nat.sub_self, List.set_cons_zero] at G9
          obtain ⟨ag, ao, cur9, ea9, _⟩ := q9.at (by decide)
          subst ea9
          have HK3 : Hid (Heap w x5 ((wdL c (h2W (rvSet sa 98) (rvSet sb 99) ep4 rvX) ++ ([rowP 29 1 (.slice a0 5 cp) 5 (intC (tolds 5)), rowP 29 1 (.slice p1 (psU sa 5).length c1) (psU sa 5).length (intC ((psU sa 5).map told)), rowP 2 1 (.slice p2 (psU sa 5).length c2) (psU sa 5).length (intC (List.replicate (psU sa 5).length 0)), blkP r1 78 #[.slice p1 (psU sa 5).length c1, .slice p2 (psU sa 5).length c2, .int .i64 1, .int .i64 0, .int .i64 (200 + 10 * ((rvSet sa 98).hd : Int)), .int .i64 98], rowP 29 1 (.slice p3 (psU sb 5).length c3) (psU sb 5).length (intC ((psU sb 5).map told)), rowP 2 1 (.slice p4 (psU sb 5).length c4) (psU sb 5).length (intC (List.replicate (psU sb 5).length 0)), blkP r2 78 #[.slice p3 (psU sb 5).length c3, .slice p4 (psU sb 5).length c4, .int .i64 1, .int .i64 0, .int .i64 (200 + 10 * ((rvSet sb 99).hd : Int)), .int .i64 99]] ++ allG c (rvWs 0 [(n0, b0), (n1, b1), (n2, b2), (n3, b3)]) (rvTs [(n0, b0), (n1, b1), (n2, b2), (n3, b3)]))) ++ [rowP 38 1 (.slice (some ⟨ag, ao, none⟩) 4 c9) 4 (ptrs (rvWs 0 [(n0, b0), (n1, b1), (n2, b2), (n3, b3)]))])) := Lib.hid G9
          clear G9 q9 grow hat' QQ HX HL
          have HQ0 := rv_squad (l := [(n0, b0), (n1, b1), (n2, b2), (n3, b3)]) (X := [rowP 38 1 (.slice (some ⟨ag, ao, none⟩) 4 c9) 4 (ptrs (rvWs 0 [(n0, b0), (n1, b1), (n2, b2), (n3, b3)]))]) PA.out PB.out HK3.out
          have CM := Mixed_sys HQ0 (rv_plays2 PA.out PB.out) rv_does (by show 1 ≤ 4; decide) (by show 4 ≤ 10; decide) (la := (some ⟨ag, ao, none⟩)) (lc := c9) (jr := 0) rfl (.slice pa ys.length pc) ys HR.out HY.out (by omega) (fun i l s _ => by show 40 - l.length ≤ 2000; omega) (by omega)
          rw [show (rvWs 0 [(n0, b0), (n1, b1), (n2, b2), (n3, b3)]).length = 4 from rfl] at CM
          have CM := Lib.hid CM
          clear HQ0 HK3
          go_wp2_with fail
          refine CM.out.mono ?_
          rintro e w9 ⟨s8, Ts8, Y8, N8, hN8, rfl, H8, hall⟩
          clear CM hN8
          obtain ⟨x8, hx8, hv8, d1, d2⟩ := rv_fin PA.out PB.out H8 hall (by show 2 ≤ 4; decide)
          subst hx8
          have HS := Lib.hid H8
          have HD := Lib.hid hall
          have HV := Lib.hid hv8
          have HE := rv_end PA.out PB.out hv8 d1 d2
          have hcomb : (bits BinOp.and IntKind.u8 a b % 32 = 0 ∧ x8.s1 = 2 ∧ x8.s2 = 2) ∨ (bits BinOp.and IntKind.u8 a b % 32 ≠ 0 ∧ x8.s1 = 2 ∧ x8.s2 = 0) ∨ (bits BinOp.and IntKind.u8 a b % 32 ≠ 0 ∧ x8.s1 = 0 ∧ x8.s2 = 2) := by
            rcases BC.out with ⟨h1, h2⟩ | ⟨h1, h2⟩
            · exact .inl ⟨h1, HE.2 h2⟩
            · rcases HE.1 h2 with h3 | h3
              · exact .inr (.inl ⟨h1, h3⟩)
              · exact .inr (.inr ⟨h1, h3⟩)
          clear H8 hall hv8 d1 d2 HE
          rcases hcomb with ⟨hbc, h1, h2⟩ | ⟨hbc, h1, h2⟩ | ⟨hbc, h1, h2⟩
          · have H12 := Lib.hid (And.intro h1 h2)
            rw [← bits_tmod ha hb] at hbc
            have fc : ((bits BinOp.and IntKind.u8 a b).tmod 32 == 0) = true := beq_iff_eq.2 hbc
            have fc2 : ((bits BinOp.and IntKind.u8 a b).tmod 32 != 0) = false := by rw [bne, fc]; rfl
            have FC := Lib.hid (And.intro fc fc2)
            clear h1 h2 hbc fc fc2
            have hH := HS.out.heap
            rw [List.append_assoc] at hH
            obtain ⟨v0, v1, v2, v3, v4, v5⟩ := wdL_cells hH
            have HHH := Lib.hid hH
            have CST := Lib.hid (show ∀ (z : World) (n : Int) (L : List Piece), n = 1 ∨ n = 2 → Heap w z (wdL c (h2W (rvSet sa 98) (rvSet sb 99) ep4 x8) ++ L) → Calls Try.prog 56 #[.pointer (some ⟨c.rb, 0, none⟩), .int .i64 n] z (fun e w' => e = .returned (.int .u8 (if n = 1 then 2 else 2)) ∧ w' = z) from fun z n L hn hz => by
              have C := State_h hz 2 rfl n
              rcases hn with rfl | rfl
              · rw [show stateRt 1 (h2W (rvSet sa 98) (rvSet sb 99) ep4 x8).rt = 2 from H12.out.1] at C
                exact C
              · rw [show stateRt 2 (h2W (rvSet sa 98) (rvSet sb 99) ep4 x8).rt = 2 from H12.out.2] at C
                exact C)
            clear hH
            go_upto_region 13 with fail
            go_cut [16, 17] (fun s16 s17 wx => s16 = .bool true ∧ s17 = .bool true ∧ ∃ k, wx = w9.drewN k)
            case first =>
              go_quiet ((first
                | (go_at_call 56; exact Calls.quiet_of_same (CST.out _ _ _ (by first | exact Or.inl rfl | exact Or.inr rfl) (HHH.out.drewN _)))))
              go_wp2_with fail
              go_meet
              exact ⟨rfl, rfl, _, rfl⟩
            case rest =>
            obtain ⟨rfl, rfl, nq, hwx⟩ := hcut
            clear CST HHH v0 v1 v2 v3 v4 v5
            rename World => w99
            have HS0 : Hid (∃ Y, Squad (rvG (rvSet sa 98) (rvSet sb 99) ep4 who2) c w (rvWs 0 [(n0, b0), (n1, b1), (n2, b2), (n3, b3)]) [rowP 29 1 (.slice a0 5 cp) 5 (intC (tolds 5)), rowP 29 1 (.slice p1 (psU sa 5).length c1) (psU sa 5).length (intC ((psU sa 5).map told)), rowP 2 1 (.slice p2 (psU sa 5).length c2) (psU sa 5).length (intC (List.replicate (psU sa 5).length 0)), blkP r1 78 #[.slice p1 (psU sa 5).length c1, .slice p2 (psU sa 5).length c2, .int .i64 1, .int .i64 0, .int .i64 (200 + 10 * ((rvSet sa 98).hd : Int)), .int .i64 98], rowP 29 1 (.slice p3 (psU sb 5).length c3) (psU sb 5).length (intC ((psU sb 5).map told)), rowP 2 1 (.slice p4 (psU sb 5).length c4) (psU sb 5).length (intC (List.replicate (psU sb 5).length 0)), blkP r2 78 #[.slice p3 (psU sb 5).length c3, .slice p4 (psU sb 5).length c4, .int .i64 1, .int .i64 0, .int .i64 (200 + 10 * ((rvSet sb 99).hd : Int)), .int .i64 99]] w99 N8 (h2W (rvSet sa 98) (rvSet sb 99) ep4 x8) Ts8 ([rowP 38 1 (.slice (some ⟨ag, ao, none⟩) 4 c9) 4 (ptrs (rvWs 0 [(n0, b0), (n1, b1), (n2, b2), (n3, b3)]))] ++ Y)) := Lib.hid ⟨_, by rw [hwx]; exact HS.out.same (HS.out.heap.drewN _)⟩
            clear HS hwx
            obtain ⟨Y20, hs⟩ := HS0.out
            have hrw := hs.row (j := 0) (t := 38) (sz := 1) (n := 4) (v := .slice (some ⟨ag, ao, none⟩) 4 c9) (us := ptrs (rvWs 0 [(n0, b0), (n1, b1), (n2, b2), (n3, b3)])) rfl
            obtain ⟨ag9, ao9, _, ea2, _, _, hat2⟩ := hrw.at (by omega)
            injection ea2 with ea2
            injection ea2 with ea2 eo2
            subst ea2
            subst eo2
            have y0 : World.cell? _ ⟨ag, ao, none⟩ = some (.pointer (some ⟨b0 + 3, 0, none⟩)) := hat2 0 _ rfl
            clear hrw
            have CY := Lib.hid (rv_yes hs HD.out (i := 0) (q := (n0, b0)) rfl true (by show decide (x8.s1 = 2) = _; rw [H12.out.1]; rfl))
            clear hs hat2 HS0
            go_wp2_with fail
            refine CY.out.mono ?_
            rintro e w10 ⟨rfl, Y30, H40⟩
            clear CY y0
            have HS1 : Hid (∃ Y, Squad (rvG (rvSet sa 98) (rvSet sb 99) ep4 who2) c w (rvWs 0 [(n0, b0), (n1, b1), (n2, b2), (n3, b3)]) [rowP 29 1 (.slice a0 5 cp) 5 (intC (tolds 5)), rowP 29 1 (.slice p1 (psU sa 5).length c1) (psU sa 5).length (intC ((psU sa 5).map told)), rowP 2 1 (.slice p2 (psU sa 5).length c2) (psU sa 5).length (intC (List.replicate (psU sa 5).length 0)), blkP r1 78 #[.slice p1 (psU sa 5).length c1, .slice p2 (psU sa 5).length c2, .int .i64 1, .int .i64 0, .int .i64 (200 + 10 * ((rvSet sa 98).hd : Int)), .int .i64 98], rowP 29 1 (.slice p3 (psU sb 5).length c3) (psU sb 5).length (intC ((psU sb 5).map told)), rowP 2 1 (.slice p4 (psU sb 5).length c4) (psU sb 5).length (intC (List.replicate (psU sb 5).length 0)), blkP r2 78 #[.slice p3 (psU sb 5).length c3, .slice p4 (psU sb 5).length c4, .int .i64 1, .int .i64 0, .int .i64 (200 + 10 * ((rvSet sb 99).hd : Int)), .int .i64 99]] w10 N8 (h2W (rvSet sa 98) (rvSet sb 99) ep4 x8) Ts8 ([rowP 38 1 (.slice (some ⟨ag, ao, none⟩) 4 c9) 4 (ptrs (rvWs 0 [(n0, b0), (n1, b1), (n2, b2), (n3, b3)]))] ++ Y)) := Lib.hid ⟨_, by rw [List.append_assoc] at H40; exact H40⟩
            clear H40
            obtain ⟨Y21, hs⟩ := HS1.out
            have hrw := hs.row (j := 0) (t := 38) (sz := 1) (n := 4) (v := .slice (some ⟨ag, ao, none⟩) 4 c9) (us := ptrs (rvWs 0 [(n0, b0), (n1, b1), (n2, b2), (n3, b3)])) rfl
            obtain ⟨ag9, ao9, _, ea2, _, _, hat2⟩ := hrw.at (by omega)
            injection ea2 with ea2
            injection ea2 with ea2 eo2
            subst ea2
            subst eo2
            have y1 : World.cell? _ ⟨ag, ao + 1, none⟩ = some (.pointer (some ⟨b1 + 3, 0, none⟩)) := hat2 1 _ rfl
            clear hrw
            have CY := Lib.hid (rv_yes hs HD.out (i := 1) (q := (n1, b1)) rfl true (by show decide (x8.s2 = 2) = _; rw [H12.out.2]; rfl))
            clear hs hat2 HS1
            go_wp2_with fail
            refine CY.out.mono ?_
            rintro e w11 ⟨rfl, Y31, H41⟩
            clear CY y1
            have HS2 : Hid (∃ Y, Squad (rvG (rvSet sa 98) (rvSet sb 99) ep4 who2) c w (rvWs 0 [(n0, b0), (n1, b1), (n2, b2), (n3, b3)]) [rowP 29 1 (.slice a0 5 cp) 5 (intC (tolds 5)), rowP 29 1 (.slice p1 (psU sa 5).length c1) (psU sa 5).length (intC ((psU sa 5).map told)), rowP 2 1 (.slice p2 (psU sa 5).length c2) (psU sa 5).length (intC (List.replicate (psU sa 5).length 0)), blkP r1 78 #[.slice p1 (psU sa 5).length c1, .slice p2 (psU sa 5).length c2, .int .i64 1, .int .i64 0, .int .i64 (200 + 10 * ((rvSet sa 98).hd : Int)), .int .i64 98], rowP 29 1 (.slice p3 (psU sb 5).length c3) (psU sb 5).length (intC ((psU sb 5).map told)), rowP 2 1 (.slice p4 (psU sb 5).length c4) (psU sb 5).length (intC (List.replicate (psU sb 5).length 0)), blkP r2 78 #[.slice p3 (psU sb 5).length c3, .slice p4 (psU sb 5).length c4, .int .i64 1, .int .i64 0, .int .i64 (200 + 10 * ((rvSet sb 99).hd : Int)), .int .i64 99]] w11 N8 (h2W (rvSet sa 98) (rvSet sb 99) ep4 x8) Ts8 ([rowP 38 1 (.slice (some ⟨ag, ao, none⟩) 4 c9) 4 (ptrs (rvWs 0 [(n0, b0), (n1, b1), (n2, b2), (n3, b3)]))] ++ Y)) := Lib.hid ⟨_, by rw [List.append_assoc] at H41; exact H41⟩
            clear H41
            obtain ⟨Y22, hs⟩ := HS2.out
            have hrw := hs.row (j := 0) (t := 38) (sz := 1) (n := 4) (v := .slice (some ⟨ag, ao, none⟩) 4 c9) (us := ptrs (rvWs 0 [(n0, b0), (n1, b1), (n2, b2), (n3, b3)])) rfl
            obtain ⟨ag9, ao9, _, ea2, _, _, hat2⟩ := hrw.at (by omega)
            injection ea2 with ea2
            injection ea2 with ea2 eo2
            subst ea2
            subst eo2
            have y2 : World.cell? _ ⟨ag, ao + 2, none⟩ = some (.pointer (some ⟨b2 + 3, 0, none⟩)) := hat2 2 _ rfl
            clear hrw
            have CY := Lib.hid (rv_yes hs HD.out (i := 2) (q := (n2, b2)) rfl true (by show decide (x8.s1 = 2) = _; rw [H12.out.1]; rfl))
            clear hs hat2 HS2
            go_wp2_with fail
            refine CY.out.mono ?_
            rintro e w12 ⟨rfl, Y32, H42⟩
            clear CY y2
            have HS3 : Hid (∃ Y, Squad (rvG (rvSet sa 98) (rvSet sb 99) ep4 who2) c w (rvWs 0 [(n0, b0), (n1, b1), (n2, b2), (n3, b3)]) [rowP 29 1 (.slice a0 5 cp) 5 (intC (tolds 5)), rowP 29 1 (.slice p1 (psU sa 5).length c1) (psU sa 5).length (intC ((psU sa 5).map told)), rowP 2 1 (.slice p2 (psU sa 5).length c2) (psU sa 5).length (intC (List.replicate (psU sa 5).length 0)), blkP r1 78 #[.slice p1 (psU sa 5).length c1, .slice p2 (psU sa 5).length c2, .int .i64 1, .int .i64 0, .int .i64 (200 + 10 * ((rvSet sa 98).hd : Int)), .int .i64 98], rowP 29 1 (.slice p3 (psU sb 5).length c3) (psU sb 5).length (intC ((psU sb 5).map told)), rowP 2 1 (.slice p4 (psU sb 5).length c4) (psU sb 5).length (intC (List.replicate (psU sb 5).length 0)), blkP r2 78 #[.slice p3 (psU sb 5).length c3, .slice p4 (psU sb 5).length c4, .int .i64 1, .int .i64 0, .int .i64 (200 + 10 * ((rvSet sb 99).hd : Int)), .int .i64 99]] w12 N8 (h2W (rvSet sa 98) (rvSet sb 99) ep4 x8) Ts8 ([rowP 38 1 (.slice (some ⟨ag, ao, none⟩) 4 c9) 4 (ptrs (rvWs 0 [(n0, b0), (n1, b1), (n2, b2), (n3, b3)]))] ++ Y)) := Lib.hid ⟨_, by rw [List.append_assoc] at H42; exact H42⟩
            clear H42
            obtain ⟨Y23, hs⟩ := HS3.out
            have hrw := hs.row (j := 0) (t := 38) (sz := 1) (n := 4) (v := .slice (some ⟨ag, ao, none⟩) 4 c9) (us := ptrs (rvWs 0 [(n0, b0), (n1, b1), (n2, b2), (n3, b3)])) rfl
            obtain ⟨ag9, ao9, _, ea2, _, _, hat2⟩ := hrw.at (by omega)
            injection ea2 with ea2
            injection ea2 with ea2 eo2
            subst ea2
            subst eo2
            have y3 : World.cell? _ ⟨ag, ao + 3, none⟩ = some (.pointer (some ⟨b3 + 3, 0, none⟩)) := hat2 3 _ rfl
            clear hrw
            have CY := Lib.hid (rv_yes hs HD.out (i := 3) (q := (n3, b3)) rfl true (by show decide (x8.s2 = 2) = _; rw [H12.out.2]; rfl))
            clear hs hat2 HS3
            go_wp2_with fail
            refine CY.out.mono ?_
            rintro e w13 ⟨rfl, Y33, H43⟩
            clear CY y3
            have HS4 : Hid (∃ Y, Squad (rvG (rvSet sa 98) (rvSet sb 99) ep4 who2) c w (rvWs 0 [(n0, b0), (n1, b1), (n2, b2), (n3, b3)]) [rowP 29 1 (.slice a0 5 cp) 5 (intC (tolds 5)), rowP 29 1 (.slice p1 (psU sa 5).length c1) (psU sa 5).length (intC ((psU sa 5).map told)), rowP 2 1 (.slice p2 (psU sa 5).length c2) (psU sa 5).length (intC (List.replicate (psU sa 5).length 0)), blkP r1 78 #[.slice p1 (psU sa 5).length c1, .slice p2 (psU sa 5).length c2, .int .i64 1, .int .i64 0, .int .i64 (200 + 10 * ((rvSet sa 98).hd : Int)), .int .i64 98], rowP 29 1 (.slice p3 (psU sb 5).length c3) (psU sb 5).length (intC ((psU sb 5).map told)), rowP 2 1 (.slice p4 (psU sb 5).length c4) (psU sb 5).length (intC (List.replicate (psU sb 5).length 0)), blkP r2 78 #[.slice p3 (psU sb 5).length c3, .slice p4 (psU sb 5).length c4, .int .i64 1, .int .i64 0, .int .i64 (200 + 10 * ((rvSet sb 99).hd : Int)), .int .i64 99]] w13 N8 (h2W (rvSet sa 98) (rvSet sb 99) ep4 x8) Ts8 ([rowP 38 1 (.slice (some ⟨ag, ao, none⟩) 4 c9) 4 (ptrs (rvWs 0 [(n0, b0), (n1, b1), (n2, b2), (n3, b3)]))] ++ Y)) := Lib.hid ⟨_, by rw [List.append_assoc] at H43; exact H43⟩
            clear H43
            obtain ⟨fc, fc2⟩ := FC.out
            have H0 : Heap w w13 (wdL c (h2W (rvSet sa 98) (rvSet sb 99) ep4 x8) ++ [rowP 29 1 (.slice a0 5 cp) 5 (intC (tolds 5)), rowP 29 1 (.slice p1 (psU sa 5).length c1) (psU sa 5).length (intC ((psU sa 5).map told)), rowP 2 1 (.slice p2 (psU sa 5).length c2) (psU sa 5).length (intC (List.replicate (psU sa 5).length 0)), blkP r1 78 #[.slice p1 (psU sa 5).length c1, .slice p2 (psU sa 5).length c2, .int .i64 1, .int .i64 0, .int .i64 (200 + 10 * ((rvSet sa 98).hd : Int)), .int .i64 98], rowP 29 1 (.slice p3 (psU sb 5).length c3) (psU sb 5).length (intC ((psU sb 5).map told)), rowP 2 1 (.slice p4 (psU sb 5).length c4) (psU sb 5).length (intC (List.replicate (psU sb 5).length 0)), blkP r2 78 #[.slice p3 (psU sb 5).length c3, .slice p4 (psU sb 5).length c4, .int .i64 1, .int .i64 0, .int .i64 (200 + 10 * ((rvSet sb 99).hd : Int)), .int .i64 99]]) := by
              obtain ⟨Y, hs⟩ := HS4.out
              have := hs.heap.first
              rw [← List.append_assoc] at this
              exact this.first
            have HH := Lib.hid H0
            clear H0 HS4
            go_wp2_with fail
            clear fc fc2
            go_loopw [150] (fun i wr => ∃ k : Nat, i = .int .i64 (k : Nat) ∧ k ≤ 5 ∧ Hid (Heap w wr (wdL c (h2W (rvSet sa 98) (rvSet sb 99) ep4 x8) ++ [rowP 29 1 (.slice a0 5 cp) 5 (intC (tolds 5)), rowP 29 1 (.slice p1 (psU sa 5).length c1) (psU sa 5).length (intC ((psU sa 5).map told)), rowP 2 1 (.slice p2 (psU sa 5).length c2) (psU sa 5).length (intC (List.replicate (psU sa 5).length 0)), blkP r1 78 #[.slice p1 (psU sa 5).length c1, .slice p2 (psU sa 5).length c2, .int .i64 1, .int .i64 0, .int .i64 (200 + 10 * ((rvSet sa 98).hd : Int)), .int .i64 98], rowP 29 1 (.slice p3 (psU sb 5).length c3) (psU sb 5).length (intC ((psU sb 5).map told)), rowP 2 1 (.slice p4 (psU sb 5).length c4) (psU sb 5).length (intC (List.replicate (psU sb 5).length 0)), blkP r2 78 #[.slice p3 (psU sb 5).length c3, .slice p4 (psU sb 5).length c4, .int .i64 1, .int .i64 0, .int .i64 (200 + 10 * ((rvSet sb 99).hd : Int)), .int .i64 99]]))) (fun i _ => 5 - (intOf i).toNat)
            case atStart => exact ⟨0, rfl, Nat.zero_le _, HH⟩
            case round =>
              clear HH
              obtain ⟨k, rfl, hk, HH⟩ := hrel
              by_cases hlt : k < 5
              · obtain ⟨v0, v1, v2, v3, v4, v5⟩ := wdL_cells HH.out
                obtain ⟨g9, ee, hcc, hat⟩ := (HH.out.row 4 (t := 29) (sz := 1) (n := 5) (v := .slice a0 5 cp) (us := intC (tolds 5)) rfl).rdv.at (by omega)
                have ee : a0 = some g9 := by simpa using ee
                subst ee
                have y1 := hat k _ (tolds_get hlt)
                have hA := rv_hd PA.out
                have hB := rv_hd PB.out
                have l1 : 0 < (psU sa 5).length := PA.out.l1
                have l2 : 0 < (psU sb 5).length := PB.out.l1
                have q1 := (HH.out.blk 7 (b := r1) (t := 78) (c := #[.slice p1 (psU sa 5).length c1, .slice p2 (psU sa 5).length c2, .int .i64 1, .int .i64 0, .int .i64 (200 + 10 * ((rvSet sa 98).hd : Int)), .int .i64 98]) rfl).cell 0
                have q2 := (HH.out.blk 10 (b := r2) (t := 78) (c := #[.slice p3 (psU sb 5).length c3, .slice p4 (psU sb 5).length c4, .int .i64 1, .int .i64 0, .int .i64 (200 + 10 * ((rvSet sb 99).hd : Int)), .int .i64 99]) rfl).cell 0
                obtain ⟨g1, ee1, hc1, hat1⟩ := (HH.out.row 5 (t := 29) (sz := 1) (n := (psU sa 5).length) (v := .slice p1 (psU sa 5).length c1) (us := intC ((psU sa 5).map told)) rfl).rdv.at l1
                have ee1 : p1 = some g1 := by simpa using ee1
                subst ee1
                have z1 : World.cell? _ g1 = some (.int .i64 (told (rvSet sa 98).hd)) := hat1 0 _ hA.1
                obtain ⟨g2, ee2, hc2, hat2⟩ := (HH.out.row 8 (t := 29) (sz := 1) (n := (psU sb 5).length) (v := .slice p3 (psU sb 5).length c3) (us := intC ((psU sb 5).map told)) rfl).rdv.at l2
                have ee2 : p3 = some g2 := by simpa using ee2
                subst ee2
                have z2 : World.cell? _ g2 = some (.int .i64 (told (rvSet sb 99).hd)) := hat2 0 _ hB.1
                obtain ⟨y, hy⟩ := rv_get HV.out hlt
                have hxl : x8.L.length ≤ 1000 := by rw [HV.out.len]; omega
                have okA : OkAr (h2W (rvSet sa 98) (rvSet sb 99) ep4 x8).ar := (nkS_ok (l := x8.L) (N := 10) (by rw [HV.out.len]; omega) (Nat.le_refl _)).ok (by omega)
                have CW := Way_q HH.out 1 rfl okA (told k) 0 (arAt_nk (l := x8.L) (by rw [HV.out.len]; exact hlt) hxl)
                rw [show (wayAr (told k) 0 (h2W (rvSet sa 98) (rvSet sb 99) ep4 x8).ar).1 = y.a from by show (wayAr (told k) 0 (nkS x8.L)).1 = _; rw [(nk_way hy hxl).1], rv_ways PA.out PB.out HV.out (.inl H12.out.1) (.inl H12.out.2) hy hlt] at CW
                have tA := told_beq hlt hA.2
                have tB := told_beq hlt hB.2
                clear hat hat1 hat2 hcc hc1 hc2 hxl okA hA hB hy
                by_cases eB : k = (rvSet sb 99).hd
                · by_cases eA : k = (rvSet sa 98).hd
                  · rw [decide_eq_true eB] at tB
                    rw [if_pos ⟨H12.out.2, eB⟩] at CW
                    rw [decide_eq_true eA] at tA
                    clear eA eB
                    have CW := Lib.hid CW
                    go_wp2_with fail
                    refine CW.out.mono ?_
                    rintro e w' ⟨rfl, hw⟩
                    have hw := hw.symm
                    subst hw
                    clear CW
                    go_wp2_with fail
                    exact ⟨⟨k + 1, by go_num, by omega, HH⟩, by simp [intOf]; omega⟩
                  · rw [decide_eq_true eB] at tB
                    rw [if_pos ⟨H12.out.2, eB⟩] at CW
                    rw [decide_eq_false eA] at tA
                    clear eA eB
                    have CW := Lib.hid CW
                    go_wp2_with fail
                    refine CW.out.mono ?_
                    rintro e w' ⟨rfl, hw⟩
                    have hw := hw.symm
                    subst hw
                    clear CW
                    go_wp2_with fail
                    exact ⟨⟨k + 1, by go_num, by omega, HH⟩, by simp [intOf]; omega⟩
                · by_cases eA : k = (rvSet sa 98).hd
                  · rw [decide_eq_false eB] at tB
                    rw [if_neg (fun h => eB h.2)] at CW
                    rw [if_pos ⟨H12.out.1, eA⟩] at CW
                    rw [decide_eq_true eA] at tA
                    clear eA eB
                    have CW := Lib.hid CW
                    go_wp2_with fail
                    refine CW.out.mono ?_
                    rintro e w' ⟨rfl, hw⟩
                    have hw := hw.symm
                    subst hw
                    clear CW
                    go_wp2_with fail
                    exact ⟨⟨k + 1, by go_num, by omega, HH⟩, by simp [intOf]; omega⟩
                  · rw [decide_eq_false eB] at tB
                    rw [if_neg (fun h => eB h.2)] at CW
                    rw [if_neg (fun h => eA h.2)] at CW
                    rw [decide_eq_false eA] at tA
                    clear eA eB
                    have CW := Lib.hid CW
                    go_wp2_with fail
                    refine CW.out.mono ?_
                    rintro e w' ⟨rfl, hw⟩
                    have hw := hw.symm
                    subst hw
                    clear CW
                    go_wp2_with fail
                    exact ⟨⟨k + 1, by go_num, by omega, HH⟩, by simp [intOf]; omega⟩
              · have hk5 : k = 5 := by omega
                subst hk5
                go_wp2_with fail
                go_ret
                exact ⟨rfl, HH.out.below⟩
          · have H12 := Lib.hid (And.intro h1 h2)
            rw [← bits_tmod ha hb] at hbc
            have fc : ((bits BinOp.and IntKind.u8 a b).tmod 32 == 0) = false := beq_eq_false_iff_ne.2 hbc
            have fc2 : ((bits BinOp.and IntKind.u8 a b).tmod 32 != 0) = true := by rw [bne, fc]; rfl
            have FC := Lib.hid (And.intro fc fc2)
            clear h1 h2 hbc fc fc2
            have hH := HS.out.heap
            rw [List.append_assoc] at hH
            obtain ⟨v0, v1, v2, v3, v4, v5⟩ := wdL_cells hH
            have HHH := Lib.hid hH
            have CST := Lib.hid (show ∀ (z : World) (n : Int) (L : List Piece), n = 1 ∨ n = 2 → Heap w z (wdL c (h2W (rvSet sa 98) (rvSet sb 99) ep4 x8) ++ L) → Calls Try.prog 56 #[.pointer (some ⟨c.rb, 0, none⟩), .int .i64 n] z (fun e w' => e = .returned (.int .u8 (if n = 1 then 2 else 0)) ∧ w' = z) from fun z n L hn hz => by
              have C := State_h hz 2 rfl n
              rcases hn with rfl | rfl
              · rw [show stateRt 1 (h2W (rvSet sa 98) (rvSet sb 99) ep4 x8).rt = 2 from H12.out.1] at C
                exact C
              · rw [show stateRt 2 (h2W (rvSet sa 98) (rvSet sb 99) ep4 x8).rt = 0 from H12.out.2] at C
                exact C)
            clear hH
            go_upto_region 13 with fail
            go_cut [16, 17] (fun s16 s17 wx => s16 = .bool true ∧ s17 = .bool false ∧ ∃ k, wx = w9.drewN k)
            case first =>
              go_quiet ((first
                | (go_at_call 56; exact Calls.quiet_of_same (CST.out _ _ _ (by first | exact Or.inl rfl | exact Or.inr rfl) (HHH.out.drewN _)))))
              go_wp2_with fail
              go_meet
              exact ⟨rfl, rfl, _, rfl⟩
            case rest =>
            obtain ⟨rfl, rfl, nq, hwx⟩ := hcut
            clear CST HHH v0 v1 v2 v3 v4 v5
            rename World => w99
            have HS0 : Hid (∃ Y, Squad (rvG (rvSet sa 98) (rvSet sb 99) ep4 who2) c w (rvWs 0 [(n0, b0), (n1, b1), (n2, b2), (n3, b3)]) [rowP 29 1 (.slice a0 5 cp) 5 (intC (tolds 5)), rowP 29 1 (.slice p1 (psU sa 5).length c1) (psU sa 5).length (intC ((psU sa 5).map told)), rowP 2 1 (.slice p2 (psU sa 5).length c2) (psU sa 5).length (intC (List.replicate (psU sa 5).length 0)), blkP r1 78 #[.slice p1 (psU sa 5).length c1, .slice p2 (psU sa 5).length c2, .int .i64 1, .int .i64 0, .int .i64 (200 + 10 * ((rvSet sa 98).hd : Int)), .int .i64 98], rowP 29 1 (.slice p3 (psU sb 5).length c3) (psU sb 5).length (intC ((psU sb 5).map told)), rowP 2 1 (.slice p4 (psU sb 5).length c4) (psU sb 5).length (intC (List.replicate (psU sb 5).length 0)), blkP r2 78 #[.slice p3 (psU sb 5).length c3, .slice p4 (psU sb 5).length c4, .int .i64 1, .int .i64 0, .int .i64 (200 + 10 * ((rvSet sb 99).hd : Int)), .int .i64 99]] w99 N8 (h2W (rvSet sa 98) (rvSet sb 99) ep4 x8) Ts8 ([rowP 38 1 (.slice (some ⟨ag, ao, none⟩) 4 c9) 4 (ptrs (rvWs 0 [(n0, b0), (n1, b1), (n2, b2), (n3, b3)]))] ++ Y)) := Lib.hid ⟨_, by rw [hwx]; exact HS.out.same (HS.out.heap.drewN _)⟩
            clear HS hwx
            obtain ⟨Y20, hs⟩ := HS0.out
            have hrw := hs.row (j := 0) (t := 38) (sz := 1) (n := 4) (v := .slice (some ⟨ag, ao, none⟩) 4 c9) (us := ptrs (rvWs 0 [(n0, b0), (n1, b1), (n2, b2), (n3, b3)])) rfl
            obtain ⟨ag9, ao9, _, ea2, _, _, hat2⟩ := hrw.at (by omega)
            injection ea2 with ea2
            injection ea2 with ea2 eo2
            subst ea2
            subst eo2
            have y0 : World.cell? _ ⟨ag, ao, none⟩ = some (.pointer (some ⟨b0 + 3, 0, none⟩)) := hat2 0 _ rfl
            clear hrw
            have CY := Lib.hid (rv_yes hs HD.out (i := 0) (q := (n0, b0)) rfl true (by show decide (x8.s1 = 2) = _; rw [H12.out.1]; rfl))
            clear hs hat2 HS0
            go_wp2_with fail
            refine CY.out.mono ?_
            rintro e w10 ⟨rfl, Y30, H40⟩
            clear CY y0
            have HS1 : Hid (∃ Y, Squad (rvG (rvSet sa 98) (rvSet sb 99) ep4 who2) c w (rvWs 0 [(n0, b0), (n1, b1), (n2, b2), (n3, b3)]) [rowP 29 1 (.slice a0 5 cp) 5 (intC (tolds 5)), rowP 29 1 (.slice p1 (psU sa 5).length c1) (psU sa 5).length (intC ((psU sa 5).map told)), rowP 2 1 (.slice p2 (psU sa 5).length c2) (psU sa 5).length (intC (List.replicate (psU sa 5).length 0)), blkP r1 78 #[.slice p1 (psU sa 5).length c1, .slice p2 (psU sa 5).length c2, .int .i64 1, .int .i64 0, .int .i64 (200 + 10 * ((rvSet sa 98).hd : Int)), .int .i64 98], rowP 29 1 (.slice p3 (psU sb 5).length c3) (psU sb 5).length (intC ((psU sb 5).map told)), rowP 2 1 (.slice p4 (psU sb 5).length c4) (psU sb 5).length (intC (List.replicate (psU sb 5).length 0)), blkP r2 78 #[.slice p3 (psU sb 5).length c3, .slice p4 (psU sb 5).length c4, .int .i64 1, .int .i64 0, .int .i64 (200 + 10 * ((rvSet sb 99).hd : Int)), .int .i64 99]] w10 N8 (h2W (rvSet sa 98) (rvSet sb 99) ep4 x8) Ts8 ([rowP 38 1 (.slice (some ⟨ag, ao, none⟩) 4 c9) 4 (ptrs (rvWs 0 [(n0, b0), (n1, b1), (n2, b2), (n3, b3)]))] ++ Y)) := Lib.hid ⟨_, by rw [List.append_assoc] at H40; exact H40⟩
            clear H40
            obtain ⟨Y21, hs⟩ := HS1.out
            have hrw := hs.row (j := 0) (t := 38) (sz := 1) (n := 4) (v := .slice (some ⟨ag, ao, none⟩) 4 c9) (us := ptrs (rvWs 0 [(n0, b0), (n1, b1), (n2, b2), (n3, b3)])) rfl
            obtain ⟨ag9, ao9, _, ea2, _, _, hat2⟩ := hrw.at (by omega)
            injection ea2 with ea2
            injection ea2 with ea2 eo2
            subst ea2
            subst eo2
            have y1 : World.cell? _ ⟨ag, ao + 1, none⟩ = some (.pointer (some ⟨b1 + 3, 0, none⟩)) := hat2 1 _ rfl
            clear hrw
            have CY := Lib.hid (rv_yes hs HD.out (i := 1) (q := (n1, b1)) rfl false (by show decide (x8.s2 = 2) = _; rw [H12.out.2]; rfl))
            clear hs hat2 HS1
            go_wp2_with fail
            refine CY.out.mono ?_
            rintro e w11 ⟨rfl, Y31, H41⟩
            clear CY y1
            have HS2 : Hid (∃ Y, Squad (rvG (rvSet sa 98) (rvSet sb 99) ep4 who2) c w (rvWs 0 [(n0, b0), (n1, b1), (n2, b2), (n3, b3)]) [rowP 29 1 (.slice a0 5 cp) 5 (intC (tolds 5)), rowP 29 1 (.slice p1 (psU sa 5).length c1) (psU sa 5).length (intC ((psU sa 5).map told)), rowP 2 1 (.slice p2 (psU sa 5).length c2) (psU sa 5).length (intC (List.replicate (psU sa 5).length 0)), blkP r1 78 #[.slice p1 (psU sa 5).length c1, .slice p2 (psU sa 5).length c2, .int .i64 1, .int .i64 0, .int .i64 (200 + 10 * ((rvSet sa 98).hd : Int)), .int .i64 98], rowP 29 1 (.slice p3 (psU sb 5).length c3) (psU sb 5).length (intC ((psU sb 5).map told)), rowP 2 1 (.slice p4 (psU sb 5).length c4) (psU sb 5).length (intC (List.replicate (psU sb 5).length 0)), blkP r2 78 #[.slice p3 (psU sb 5).length c3, .slice p4 (psU sb 5).length c4, .int .i64 1, .int .i64 0, .int .i64 (200 + 10 * ((rvSet sb 99).hd : Int)), .int .i64 99]] w11 N8 (h2W (rvSet sa 98) (rvSet sb 99) ep4 x8) Ts8 ([rowP 38 1 (.slice (some ⟨ag, ao, none⟩) 4 c9) 4 (ptrs (rvWs 0 [(n0, b0), (n1, b1), (n2, b2), (n3, b3)]))] ++ Y)) := Lib.hid ⟨_, by rw [List.append_assoc] at H41; exact H41⟩
            clear H41
            obtain ⟨Y22, hs⟩ := HS2.out
            have hrw := hs.row (j := 0) (t := 38) (sz := 1) (n := 4) (v := .slice (some ⟨ag, ao, none⟩) 4 c9) (us := ptrs (rvWs 0 [(n0, b0), (n1, b1), (n2, b2), (n3, b3)])) rfl
            obtain ⟨ag9, ao9, _, ea2, _, _, hat2⟩ := hrw.at (by omega)
            injection ea2 with ea2
            injection ea2 with ea2 eo2
            subst ea2
            subst eo2
            have y2 : World.cell? _ ⟨ag, ao + 2, none⟩ = some (.pointer (some ⟨b2 + 3, 0, none⟩)) := hat2 2 _ rfl
            clear hrw
            have CY := Lib.hid (rv_yes hs HD.out (i := 2) (q := (n2, b2)) rfl true (by show decide (x8.s1 = 2) = _; rw [H12.out.1]; rfl))
            clear hs hat2 HS2
            go_wp2_with fail
            refine CY.out.mono ?_
            rintro e w12 ⟨rfl, Y32, H42⟩
            clear CY y2
            have HS3 : Hid (∃ Y, Squad (rvG (rvSet sa 98) (rvSet sb 99) ep4 who2) c w (rvWs 0 [(n0, b0), (n1, b1), (n2, b2), (n3, b3)]) [rowP 29 1 (.slice a0 5 cp) 5 (intC (tolds 5)), rowP 29 1 (.slice p1 (psU sa 5).length c1) (psU sa 5).length (intC ((psU sa 5).map told)), rowP 2 1 (.slice p2 (psU sa 5).length c2) (psU sa 5).length (intC (List.replicate (psU sa 5).length 0)), blkP r1 78 #[.slice p1 (psU sa 5).length c1, .slice p2 (psU sa 5).length c2, .int .i64 1, .int .i64 0, .int .i64 (200 + 10 * ((rvSet sa 98).hd : Int)), .int .i64 98], rowP 29 1 (.slice p3 (psU sb 5).length c3) (psU sb 5).length (intC ((psU sb 5).map told)), rowP 2 1 (.slice p4 (psU sb 5).length c4) (psU sb 5).length (intC (List.replicate (psU sb 5).length 0)), blkP r2 78 #[.slice p3 (psU sb 5).length c3, .slice p4 (psU sb 5).length c4, .int .i64 1, .int .i64 0, .int .i64 (200 + 10 * ((rvSet sb 99).hd : Int)), .int .i64 99]] w12 N8 (h2W (rvSet sa 98) (rvSet sb 99) ep4 x8) Ts8 ([rowP 38 1 (.slice (some ⟨ag, ao, none⟩) 4 c9) 4 (ptrs (rvWs 0 [(n0, b0), (n1, b1), (n2, b2), (n3, b3)]))] ++ Y)) := Lib.hid ⟨_, by rw [List.append_assoc] at H42; exact H42⟩
            clear H42
            obtain ⟨Y23, hs⟩ := HS3.out
            have hrw := hs.row (j := 0) (t := 38) (sz := 1) (n := 4) (v := .slice (some ⟨ag, ao, none⟩) 4 c9) (us := ptrs (rvWs 0 [(n0, b0), (n1, b1), (n2, b2), (n3, b3)])) rfl
            obtain ⟨ag9, ao9, _, ea2, _, _, hat2⟩ := hrw.at (by omega)
            injection ea2 with ea2
            injection ea2 with ea2 eo2
            subst ea2
            subst eo2
            have y3 : World.cell? _ ⟨ag, ao + 3, none⟩ = some (.pointer (some ⟨b3 + 3, 0, none⟩)) := hat2 3 _ rfl
            clear hrw
            have CY := Lib.hid (rv_yes hs HD.out (i := 3) (q := (n3, b3)) rfl false (by show decide (x8.s2 = 2) = _; rw [H12.out.2]; rfl))
            clear hs hat2 HS3
            go_wp2_with fail
            refine CY.out.mono ?_
            rintro e w13 ⟨rfl, Y33, H43⟩
            clear CY y3
            have HS4 : Hid (∃ Y, Squad (rvG (rvSet sa 98) (rvSet sb 99) ep4 who2) c w (rvWs 0 [(n0, b0), (n1, b1), (n2, b2), (n3, b3)]) [rowP 29 1 (.slice a0 5 cp) 5 (intC (tolds 5)), rowP 29 1 (.slice p1 (psU sa 5).length c1) (psU sa 5).length (intC ((psU sa 5).map told)), rowP 2 1 (.slice p2 (psU sa 5).length c2) (psU sa 5).length (intC (List.replicate (psU sa 5).length 0)), blkP r1 78 #[.slice p1 (psU sa 5).length c1, .slice p2 (psU sa 5).length c2, .int .i64 1, .int .i64 0, .int .i64 (200 + 10 * ((rvSet sa 98).hd : Int)), .int .i64 98], rowP 29 1 (.slice p3 (psU sb 5).length c3) (psU sb 5).length (intC ((psU sb 5).map told)), rowP 2 1 (.slice p4 (psU sb 5).length c4) (psU sb 5).length (intC (List.replicate (psU sb 5).length 0)), blkP r2 78 #[.slice p3 (psU sb 5).length c3, .slice p4 (psU sb 5).length c4, .int .i64 1, .int .i64 0, .int .i64 (200 + 10 * ((rvSet sb 99).hd : Int)), .int .i64 99]] w13 N8 (h2W (rvSet sa 98) (rvSet sb 99) ep4 x8) Ts8 ([rowP 38 1 (.slice (some ⟨ag, ao, none⟩) 4 c9) 4 (ptrs (rvWs 0 [(n0, b0), (n1, b1), (n2, b2), (n3, b3)]))] ++ Y)) := Lib.hid ⟨_, by rw [List.append_assoc] at H43; exact H43⟩
            clear H43
            obtain ⟨fc, fc2⟩ := FC.out
            have H0 : Heap w w13 (wdL c (h2W (rvSet sa 98) (rvSet sb 99) ep4 x8) ++ [rowP 29 1 (.slice a0 5 cp) 5 (intC (tolds 5)), rowP 29 1 (.slice p1 (psU sa 5).length c1) (psU sa 5).length (intC ((psU sa 5).map told)), rowP 2 1 (.slice p2 (psU sa 5).length c2) (psU sa 5).length (intC (List.replicate (psU sa 5).length 0)), blkP r1 78 #[.slice p1 (psU sa 5).length c1, .slice p2 (psU sa 5).length c2, .int .i64 1, .int .i64 0, .int .i64 (200 + 10 * ((rvSet sa 98).hd : Int)), .int .i64 98], rowP 29 1 (.slice p3 (psU sb 5).length c3) (psU sb 5).length (intC ((psU sb 5).map told)), rowP 2 1 (.slice p4 (psU sb 5).length c4) (psU sb 5).length (intC (List.replicate (psU sb 5).length 0)), blkP r2 78 #[.slice p3 (psU sb 5).length c3, .slice p4 (psU sb 5).length c4, .int .i64 1, .int .i64 0, .int .i64 (200 + 10 * ((rvSet sb 99).hd : Int)), .int .i64 99]]) := by
              obtain ⟨Y, hs⟩ := HS4.out
              have := hs.heap.first
              rw [← List.append_assoc] at this
              exact this.first
            have HH := Lib.hid H0
            clear H0 HS4
            go_wp2_with fail
            clear fc fc2
            go_loopw [150] (fun i wr => ∃ k : Nat, i = .int .i64 (k : Nat) ∧ k ≤ 5 ∧ Hid (Heap w wr (wdL c (h2W (rvSet sa 98) (rvSet sb 99) ep4 x8) ++ [rowP 29 1 (.slice a0 5 cp) 5 (intC (tolds 5)), rowP 29 1 (.slice p1 (psU sa 5).length c1) (psU sa 5).length (intC ((psU sa 5).map told)), rowP 2 1 (.slice p2 (psU sa 5).length c2) (psU sa 5).length (intC (List.replicate (psU sa 5).length 0)), blkP r1 78 #[.slice p1 (psU sa 5).length c1, .slice p2 (psU sa 5).length c2, .int .i64 1, .int .i64 0, .int .i64 (200 + 10 * ((rvSet sa 98).hd : Int)), .int .i64 98], rowP 29 1 (.slice p3 (psU sb 5).length c3) (psU sb 5).length (intC ((psU sb 5).map told)), rowP 2 1 (.slice p4 (psU sb 5).length c4) (psU sb 5).length (intC (List.replicate (psU sb 5).length 0)), blkP r2 78 #[.slice p3 (psU sb 5).length c3, .slice p4 (psU sb 5).length c4, .int .i64 1, .int .i64 0, .int .i64 (200 + 10 * ((rvSet sb 99).hd : Int)), .int .i64 99]]))) (fun i _ => 5 - (intOf i).toNat)
            case atStart => exact ⟨0, rfl, Nat.zero_le _, HH⟩
            case round =>
              clear HH
              obtain ⟨k, rfl, hk, HH⟩ := hrel
              by_cases hlt : k < 5
              · obtain ⟨v0, v1, v2, v3, v4, v5⟩ := wdL_cells HH.out
                obtain ⟨g9, ee, hcc, hat⟩ := (HH.out.row 4 (t := 29) (sz := 1) (n := 5) (v := .slice a0 5 cp) (us := intC (tolds 5)) rfl).rdv.at (by omega)
                have ee : a0 = some g9 := by simpa using ee
                subst ee
                have y1 := hat k _ (tolds_get hlt)
                have hA := rv_hd PA.out
                have hB := rv_hd PB.out
                have l1 : 0 < (psU sa 5).length := PA.out.l1
                have l2 : 0 < (psU sb 5).length := PB.out.l1
                have q1 := (HH.out.blk 7 (b := r1) (t := 78) (c := #[.slice p1 (psU sa 5).length c1, .slice p2 (psU sa 5).length c2, .int .i64 1, .int .i64 0, .int .i64 (200 + 10 * ((rvSet sa 98).hd : Int)), .int .i64 98]) rfl).cell 0
                have q2 := (HH.out.blk 10 (b := r2) (t := 78) (c := #[.slice p3 (psU sb 5).length c3, .slice p4 (psU sb 5).length c4, .int .i64 1, .int .i64 0, .int .i64 (200 + 10 * ((rvSet sb 99).hd : Int)), .int .i64 99]) rfl).cell 0
                obtain ⟨g1, ee1, hc1, hat1⟩ := (HH.out.row 5 (t := 29) (sz := 1) (n := (psU sa 5).length) (v := .slice p1 (psU sa 5).length c1) (us := intC ((psU sa 5).map told)) rfl).rdv.at l1
                have ee1 : p1 = some g1 := by simpa using ee1
                subst ee1
                have z1 : World.cell? _ g1 = some (.int .i64 (told (rvSet sa 98).hd)) := hat1 0 _ hA.1
                obtain ⟨g2, ee2, hc2, hat2⟩ := (HH.out.row 8 (t := 29) (sz := 1) (n := (psU sb 5).length) (v := .slice p3 (psU sb 5).length c3) (us := intC ((psU sb 5).map told)) rfl).rdv.at l2
                have ee2 : p3 = some g2 := by simpa using ee2
                subst ee2
                have z2 : World.cell? _ g2 = some (.int .i64 (told (rvSet sb 99).hd)) := hat2 0 _ hB.1
                obtain ⟨y, hy⟩ := rv_get HV.out hlt
                have hxl : x8.L.length ≤ 1000 := by rw [HV.out.len]; omega
                have okA : OkAr (h2W (rvSet sa 98) (rvSet sb 99) ep4 x8).ar := (nkS_ok (l := x8.L) (N := 10) (by rw [HV.out.len]; omega) (Nat.le_refl _)).ok (by omega)
                have CW := Way_q HH.out 1 rfl okA (told k) 0 (arAt_nk (l := x8.L) (by rw [HV.out.len]; exact hlt) hxl)
                rw [show (wayAr (told k) 0 (h2W (rvSet sa 98) (rvSet sb 99) ep4 x8).ar).1 = y.a from by show (wayAr (told k) 0 (nkS x8.L)).1 = _; rw [(nk_way hy hxl).1], rv_ways PA.out PB.out HV.out (.inl H12.out.1) (.inr H12.out.2) hy hlt] at CW
                have tA := told_beq hlt hA.2
                have tB := told_beq hlt hB.2
                clear hat hat1 hat2 hcc hc1 hc2 hxl okA hA hB hy
                rw [if_neg (fun h => absurd h.1 (by rw [H12.out.2]; decide))] at CW
                by_cases eA : k = (rvSet sa 98).hd
                · rw [if_pos ⟨H12.out.1, eA⟩] at CW
                  rw [decide_eq_true eA] at tA
                  clear eA tB
                  have CW := Lib.hid CW
                  go_wp2_with fail
                  refine CW.out.mono ?_
                  rintro e w' ⟨rfl, hw⟩
                  have hw := hw.symm
                  subst hw
                  clear CW
                  go_wp2_with fail
                  exact ⟨⟨k + 1, by go_num, by omega, HH⟩, by simp [intOf]; omega⟩
                · rw [if_neg (fun h => eA h.2)] at CW
                  rw [decide_eq_false eA] at tA
                  clear eA tB
                  have CW := Lib.hid CW
                  go_wp2_with fail
                  refine CW.out.mono ?_
                  rintro e w' ⟨rfl, hw⟩
                  have hw := hw.symm
                  subst hw
                  clear CW
                  go_wp2_with fail
                  exact ⟨⟨k + 1, by go_num, by omega, HH⟩, by simp [intOf]; omega⟩
              · have hk5 : k = 5 := by omega
                subst hk5
                go_wp2_with fail
                go_ret
                exact ⟨rfl, HH.out.below⟩
          · have H12 := Lib.hid (And.intro h1 h2)
            rw [← bits_tmod ha hb] at hbc
            have fc : ((bits BinOp.and IntKind.u8 a b).tmod 32 == 0) = false := beq_eq_false_iff_ne.2 hbc
            have fc2 : ((bits BinOp.and IntKind.u8 a b).tmod 32 != 0) = true := by rw [bne, fc]; rfl
            have FC := Lib.hid (And.intro fc fc2)
            clear h1 h2 hbc fc fc2
            have hH := HS.out.heap
            rw [List.append_assoc] at hH
            obtain ⟨v0, v1, v2, v3, v4, v5⟩ := wdL_cells hH
            have HHH := Lib.hid hH
            have CST := Lib.hid (show ∀ (z : World) (n : Int) (L : List Piece), n = 1 ∨ n = 2 → Heap w z (wdL c (h2W (rvSet sa 98) (rvSet sb 99) ep4 x8) ++ L) → Calls Try.prog 56 #[.pointer (some ⟨c.rb, 0, none⟩), .int .i64 n] z (fun e w' => e = .returned (.int .u8 (if n = 1 then 0 else 2)) ∧ w' = z) from fun z n L hn hz => by
              have C := State_h hz 2 rfl n
              rcases hn with rfl | rfl
              · rw [show stateRt 1 (h2W (rvSet sa 98) (rvSet sb 99) ep4 x8).rt = 0 from H12.out.1] at C
                exact C
              · rw [show stateRt 2 (h2W (rvSet sa 98) (rvSet sb 99) ep4 x8).rt = 2 from H12.out.2] at C
                exact C)
            clear hH
            go_upto_region 13 with fail
            go_cut [16, 17] (fun s16 s17 wx => s16 = .bool false ∧ s17 = .bool true ∧ ∃ k, wx = w9.drewN k)
            case first =>
              go_quiet ((first
                | (go_at_call 56; exact Calls.quiet_of_same (CST.out _ _ _ (by first | exact Or.inl rfl | exact Or.inr rfl) (HHH.out.drewN _)))))
              go_wp2_with fail
              go_meet
              exact ⟨rfl, rfl, _, rfl⟩
            case rest =>
            obtain ⟨rfl, rfl, nq, hwx⟩ := hcut
            clear CST HHH v0 v1 v2 v3 v4 v5
            rename World => w99
            have HS0 : Hid (∃ Y, Squad (rvG (rvSet sa 98) (rvSet sb 99) ep4 who2) c w (rvWs 0 [(n0, b0), (n1, b1), (n2, b2), (n3, b3)]) [rowP 29 1 (.slice a0 5 cp) 5 (intC (tolds 5)), rowP 29 1 (.slice p1 (psU sa 5).length c1) (psU sa 5).length (intC ((psU sa 5).map told)), rowP 2 1 (.slice p2 (psU sa 5).length c2) (psU sa 5).length (intC (List.replicate (psU sa 5).length 0)), blkP r1 78 #[.slice p1 (psU sa 5).length c1, .slice p2 (psU sa 5).length c2, .int .i64 1, .int .i64 0, .int .i64 (200 + 10 * ((rvSet sa 98).hd : Int)), .int .i64 98], rowP 29 1 (.slice p3 (psU sb 5).length c3) (psU sb 5).length (intC ((psU sb 5).map told)), rowP 2 1 (.slice p4 (psU sb 5).length c4) (psU sb 5).length (intC (List.replicate (psU sb 5).length 0)), blkP r2 78 #[.slice p3 (psU sb 5).length c3, .slice p4 (psU sb 5).length c4, .int .i64 1, .int .i64 0, .int .i64 (200 + 10 * ((rvSet sb 99).hd : Int)), .int .i64 99]] w99 N8 (h2W (rvSet sa 98) (rvSet sb 99) ep4 x8) Ts8 ([rowP 38 1 (.slice (some ⟨ag, ao, none⟩) 4 c9) 4 (ptrs (rvWs 0 [(n0, b0), (n1, b1), (n2, b2), (n3, b3)]))] ++ Y)) := Lib.hid ⟨_, by rw [hwx]; exact HS.out.same (HS.out.heap.drewN _)⟩
            clear HS hwx
            obtain ⟨Y20, hs⟩ := HS0.out
            have hrw := hs.row (j := 0) (t := 38) (sz := 1) (n := 4) (v := .slice (some ⟨ag, ao, none⟩) 4 c9) (us := ptrs (rvWs 0 [(n0, b0), (n1, b1), (n2, b2), (n3, b3)])) rfl
            obtain ⟨ag9, ao9, _, ea2, _, _, hat2⟩ := hrw.at (by omega)
            injection ea2 with ea2
            injection ea2 with ea2 eo2
            subst ea2
            subst eo2
            have y0 : World.cell? _ ⟨ag, ao, none⟩ = some (.pointer (some ⟨b0 + 3, 0, none⟩)) := hat2 0 _ rfl
            clear hrw
            have CY := Lib.hid (rv_yes hs HD.out (i := 0) (q := (n0, b0)) rfl false (by show decide (x8.s1 = 2) = _; rw [H12.out.1]; rfl))
            clear hs hat2 HS0
            go_wp2_with fail
            refine CY.out.mono ?_
            rintro e w10 ⟨rfl, Y30, H40⟩
            clear CY y0
            have HS1 : Hid (∃ Y, Squad (rvG (rvSet sa 98) (rvSet sb 99) ep4 who2) c w (rvWs 0 [(n0, b0), (n1, b1), (n2, b2), (n3, b3)]) [rowP 29 1 (.slice a0 5 cp) 5 (intC (tolds 5)), rowP 29 1 (.slice p1 (psU sa 5).length c1) (psU sa 5).length (intC ((psU sa 5).map told)), rowP 2 1 (.slice p2 (psU sa 5).length c2) (psU sa 5).length (intC (List.replicate (psU sa 5).length 0)), blkP r1 78 #[.slice p1 (psU sa 5).length c1, .slice p2 (psU sa 5).length c2, .int .i64 1, .int .i64 0, .int .i64 (200 + 10 * ((rvSet sa 98).hd : Int)), .int .i64 98], rowP 29 1 (.slice p3 (psU sb 5).length c3) (psU sb 5).length (intC ((psU sb 5).map told)), rowP 2 1 (.slice p4 (psU sb 5).length c4) (psU sb 5).length (intC (List.replicate (psU sb 5).length 0)), blkP r2 78 #[.slice p3 (psU sb 5).length c3, .slice p4 (psU sb 5).length c4, .int .i64 1, .int .i64 0, .int .i64 (200 + 10 * ((rvSet sb 99).hd : Int)), .int .i64 99]] w10 N8 (h2W (rvSet sa 98) (rvSet sb 99) ep4 x8) Ts8 ([rowP 38 1 (.slice (some ⟨ag, ao, none⟩) 4 c9) 4 (ptrs (rvWs 0 [(n0, b0), (n1, b1), (n2, b2), (n3, b3)]))] ++ Y)) := Lib.hid ⟨_, by rw [List.append_assoc] at H40; exact H40⟩
            clear H40
            obtain ⟨Y21, hs⟩ := HS1.out
            have hrw := hs.row (j := 0) (t := 38) (sz := 1) (n := 4) (v := .slice (some ⟨ag, ao, none⟩) 4 c9) (us := ptrs (rvWs 0 [(n0, b0), (n1, b1), (n2, b2), (n3, b3)])) rfl
            obtain ⟨ag9, ao9, _, ea2, _, _, hat2⟩ := hrw.at (by omega)
            injection ea2 with ea2
            injection ea2 with ea2 eo2
            subst ea2
            subst eo2
            have y1 : World.cell? _ ⟨ag, ao + 1, none⟩ = some (.pointer (some ⟨b1 + 3, 0, none⟩)) := hat2 1 _ rfl
            clear hrw
            have CY := Lib.hid (rv_yes hs HD.out (i := 1) (q := (n1, b1)) rfl true (by show decide (x8.s2 = 2) = _; rw [H12.out.2]; rfl))
            clear hs hat2 HS1
            go_wp2_with fail
            refine CY.out.mono ?_
            rintro e w11 ⟨rfl, Y31, H41⟩
            clear CY y1
            have HS2 : Hid (∃ Y, Squad (rvG (rvSet sa 98) (rvSet sb 99) ep4 who2) c w (rvWs 0 [(n0, b0), (n1, b1), (n2, b2), (n3, b3)]) [rowP 29 1 (.slice a0 5 cp) 5 (intC (tolds 5)), rowP 29 1 (.slice p1 (psU sa 5).length c1) (psU sa 5).length (intC ((psU sa 5).map told)), rowP 2 1 (.slice p2 (psU sa 5).length c2) (psU sa 5).length (intC (List.replicate (psU sa 5).length 0)), blkP r1 78 #[.slice p1 (psU sa 5).length c1, .slice p2 (psU sa 5).length c2, .int .i64 1, .int .i64 0, .int .i64 (200 + 10 * ((rvSet sa 98).hd : Int)), .int .i64 98], rowP 29 1 (.slice p3 (psU sb 5).length c3) (psU sb 5).length (intC ((psU sb 5).map told)), rowP 2 1 (.slice p4 (psU sb 5).length c4) (psU sb 5).length (intC (List.replicate (psU sb 5).length 0)), blkP r2 78 #[.slice p3 (psU sb 5).length c3, .slice p4 (psU sb 5).length c4, .int .i64 1, .int .i64 0, .int .i64 (200 + 10 * ((rvSet sb 99).hd : Int)), .int .i64 99]] w11 N8 (h2W (rvSet sa 98) (rvSet sb 99) ep4 x8) Ts8 ([rowP 38 1 (.slice (some ⟨ag, ao, none⟩) 4 c9) 4 (ptrs (rvWs 0 [(n0, b0), (n1, b1), (n2, b2), (n3, b3)]))] ++ Y)) := Lib.hid ⟨_, by rw [List.append_assoc] at H41; exact H41⟩
            clear H41
            obtain ⟨Y22, hs⟩ := HS2.out
            have hrw := hs.row (j := 0) (t := 38) (sz := 1) (n := 4) (v := .slice (some ⟨ag, ao, none⟩) 4 c9) (us := ptrs (rvWs 0 [(n0, b0), (n1, b1), (n2, b2), (n3, b3)])) rfl
            obtain ⟨ag9, ao9, _, ea2, _, _, hat2⟩ := hrw.at (by omega)
            injection ea2 with ea2
            injection ea2 with ea2 eo2
            subst ea2
            subst eo2
            have y2 : World.cell? _ ⟨ag, ao + 2, none⟩ = some (.pointer (some ⟨b2 + 3, 0, none⟩)) := hat2 2 _ rfl
            clear hrw
            have CY := Lib.hid (rv_yes hs HD.out (i := 2) (q := (n2, b2)) rfl false (by show decide (x8.s1 = 2) = _; rw [H12.out.1]; rfl))
            clear hs hat2 HS2
            go_wp2_with fail
            refine CY.out.mono ?_
            rintro e w12 ⟨rfl, Y32, H42⟩
            clear CY y2
            have HS3 : Hid (∃ Y, Squad (rvG (rvSet sa 98) (rvSet sb 99) ep4 who2) c w (rvWs 0 [(n0, b0), (n1, b1), (n2, b2), (n3, b3)]) [rowP 29 1 (.slice a0 5 cp) 5 (intC (tolds 5)), rowP 29 1 (.slice p1 (psU sa 5).length c1) (psU sa 5).length (intC ((psU sa 5).map told)), rowP 2 1 (.slice p2 (psU sa 5).length c2) (psU sa 5).length (intC (List.replicate (psU sa 5).length 0)), blkP r1 78 #[.slice p1 (psU sa 5).length c1, .slice p2 (psU sa 5).length c2, .int .i64 1, .int .i64 0, .int .i64 (200 + 10 * ((rvSet sa 98).hd : Int)), .int .i64 98], rowP 29 1 (.slice p3 (psU sb 5).length c3) (psU sb 5).length (intC ((psU sb 5).map told)), rowP 2 1 (.slice p4 (psU sb 5).length c4) (psU sb 5).length (intC (List.replicate (psU sb 5).length 0)), blkP r2 78 #[.slice p3 (psU sb 5).length c3, .slice p4 (psU sb 5).length c4, .int .i64 1, .int .i64 0, .int .i64 (200 + 10 * ((rvSet sb 99).hd : Int)), .int .i64 99]] w12 N8 (h2W (rvSet sa 98) (rvSet sb 99) ep4 x8) Ts8 ([rowP 38 1 (.slice (some ⟨ag, ao, none⟩) 4 c9) 4 (ptrs (rvWs 0 [(n0, b0), (n1, b1), (n2, b2), (n3, b3)]))] ++ Y)) := Lib.hid ⟨_, by rw [List.append_assoc] at H42; exact H42⟩
            clear H42
            obtain ⟨Y23, hs⟩ := HS3.out
            have hrw := hs.row (j := 0) (t := 38) (sz := 1) (n := 4) (v := .slice (some ⟨ag, ao, none⟩) 4 c9) (us := ptrs (rvWs 0 [(n0, b0), (n1, b1), (n2, b2), (n3, b3)])) rfl
            obtain ⟨ag9, ao9, _, ea2, _, _, hat2⟩ := hrw.at (by omega)
            injection ea2 with ea2
            injection ea2 with ea2 eo2
            subst ea2
            subst eo2
            have y3 : World.cell? _ ⟨ag, ao + 3, none⟩ = some (.pointer (some ⟨b3 + 3, 0, none⟩)) := hat2 3 _ rfl
            clear hrw
            have CY := Lib.hid (rv_yes hs HD.out (i := 3) (q := (n3, b3)) rfl true (by show decide (x8.s2 = 2) = _; rw [H12.out.2]; rfl))
            clear hs hat2 HS3
            go_wp2_with fail
            refine CY.out.mono ?_
            rintro e w13 ⟨rfl, Y33, H43⟩
            clear CY y3
            have HS4 : Hid (∃ Y, Squad (rvG (rvSet sa 98) (rvSet sb 99) ep4 who2) c w (rvWs 0 [(n0, b0), (n1, b1), (n2, b2), (n3, b3)]) [rowP 29 1 (.slice a0 5 cp) 5 (intC (tolds 5)), rowP 29 1 (.slice p1 (psU sa 5).length c1) (psU sa 5).length (intC ((psU sa 5).map told)), rowP 2 1 (.slice p2 (psU sa 5).length c2) (psU sa 5).length (intC (List.replicate (psU sa 5).length 0)), blkP r1 78 #[.slice p1 (psU sa 5).length c1, .slice p2 (psU sa 5).length c2, .int .i64 1, .int .i64 0, .int .i64 (200 + 10 * ((rvSet sa 98).hd : Int)), .int .i64 98], rowP 29 1 (.slice p3 (psU sb 5).length c3) (psU sb 5).length (intC ((psU sb 5).map told)), rowP 2 1 (.slice p4 (psU sb 5).length c4) (psU sb 5).length (intC (List.replicate (psU sb 5).length 0)), blkP r2 78 #[.slice p3 (psU sb 5).length c3, .slice p4 (psU sb 5).length c4, .int .i64 1, .int .i64 0, .int .i64 (200 + 10 * ((rvSet sb 99).hd : Int)), .int .i64 99]] w13 N8 (h2W (rvSet sa 98) (rvSet sb 99) ep4 x8) Ts8 ([rowP 38 1 (.slice (some ⟨ag, ao, none⟩) 4 c9) 4 (ptrs (rvWs 0 [(n0, b0), (n1, b1), (n2, b2), (n3, b3)]))] ++ Y)) := Lib.hid ⟨_, by rw [List.append_assoc] at H43; exact H43⟩
            clear H43
            obtain ⟨fc, fc2⟩ := FC.out
            have H0 : Heap w w13 (wdL c (h2W (rvSet sa 98) (rvSet sb 99) ep4 x8) ++ [rowP 29 1 (.slice a0 5 cp) 5 (intC (tolds 5)), rowP 29 1 (.slice p1 (psU sa 5).length c1) (psU sa 5).length (intC ((psU sa 5).map told)), rowP 2 1 (.slice p2 (psU sa 5).length c2) (psU sa 5).length (intC (List.replicate (psU sa 5).length 0)), blkP r1 78 #[.slice p1 (psU sa 5).length c1, .slice p2 (psU sa 5).length c2, .int .i64 1, .int .i64 0, .int .i64 (200 + 10 * ((rvSet sa 98).hd : Int)), .int .i64 98], rowP 29 1 (.slice p3 (psU sb 5).length c3) (psU sb 5).length (intC ((psU sb 5).map told)), rowP 2 1 (.slice p4 (psU sb 5).length c4) (psU sb 5).length (intC (List.replicate (psU sb 5).length 0)), blkP r2 78 #[.slice p3 (psU sb 5).length c3, .slice p4 (psU sb 5).length c4, .int .i64 1, .int .i64 0, .int .i64 (200 + 10 * ((rvSet sb 99).hd : Int)), .int .i64 99]]) := by
              obtain ⟨Y, hs⟩ := HS4.out
              have := hs.heap.first
              rw [← List.append_assoc] at this
              exact this.first
            have HH := Lib.hid H0
            clear H0 HS4
            go_wp2_with fail
            clear fc fc2
            go_loopw [150] (fun i wr => ∃ k : Nat, i = .int .i64 (k : Nat) ∧ k ≤ 5 ∧ Hid (Heap w wr (wdL c (h2W (rvSet sa 98) (rvSet sb 99) ep4 x8) ++ [rowP 29 1 (.slice a0 5 cp) 5 (intC (tolds 5)), rowP 29 1 (.slice p1 (psU sa 5).length c1) (psU sa 5).length (intC ((psU sa 5).map told)), rowP 2 1 (.slice p2 (psU sa 5).length c2) (psU sa 5).length (intC (List.replicate (psU sa 5).length 0)), blkP r1 78 #[.slice p1 (psU sa 5).length c1, .slice p2 (psU sa 5).length c2, .int .i64 1, .int .i64 0, .int .i64 (200 + 10 * ((rvSet sa 98).hd : Int)), .int .i64 98], rowP 29 1 (.slice p3 (psU sb 5).length c3) (psU sb 5).length (intC ((psU sb 5).map told)), rowP 2 1 (.slice p4 (psU sb 5).length c4) (psU sb 5).length (intC (List.replicate (psU sb 5).length 0)), blkP r2 78 #[.slice p3 (psU sb 5).length c3, .slice p4 (psU sb 5).length c4, .int .i64 1, .int .i64 0, .int .i64 (200 + 10 * ((rvSet sb 99).hd : Int)), .int .i64 99]]))) (fun i _ => 5 - (intOf i).toNat)
            case atStart => exact ⟨0, rfl, Nat.zero_le _, HH⟩
            case round =>
              clear HH
              obtain ⟨k, rfl, hk, HH⟩ := hrel
              by_cases hlt : k < 5
              · obtain ⟨v0, v1, v2, v3, v4, v5⟩ := wdL_cells HH.out
                obtain ⟨g9, ee, hcc, hat⟩ := (HH.out.row 4 (t := 29) (sz := 1) (n := 5) (v := .slice a0 5 cp) (us := intC (tolds 5)) rfl).rdv.at (by omega)
                have ee : a0 = some g9 := by simpa using ee
                subst ee
                have y1 := hat k _ (tolds_get hlt)
                have hA := rv_hd PA.out
                have hB := rv_hd PB.out
                have l1 : 0 < (psU sa 5).length := PA.out.l1
                have l2 : 0 < (psU sb 5).length := PB.out.l1
                have q1 := (HH.out.blk 7 (b := r1) (t := 78) (c := #[.slice p1 (psU sa 5).length c1, .slice p2 (psU sa 5).length c2, .int .i64 1, .int .i64 0, .int .i64 (200 + 10 * ((rvSet sa 98).hd : Int)), .int .i64 98]) rfl).cell 0
                have q2 := (HH.out.blk 10 (b := r2) (t := 78) (c := #[.slice p3 (psU sb 5).length c3, .slice p4 (psU sb 5).length c4, .int .i64 1, .int .i64 0, .int .i64 (200 + 10 * ((rvSet sb 99).hd : Int)), .int .i64 99]) rfl).cell 0
                obtain ⟨g1, ee1, hc1, hat1⟩ := (HH.out.row 5 (t := 29) (sz := 1) (n := (psU sa 5).length) (v := .slice p1 (psU sa 5).length c1) (us := intC ((psU sa 5).map told)) rfl).rdv.at l1
                have ee1 : p1 = some g1 := by simpa using ee1
                subst ee1
                have z1 : World.cell? _ g1 = some (.int .i64 (told (rvSet sa 98).hd)) := hat1 0 _ hA.1
                obtain ⟨g2, ee2, hc2, hat2⟩ := (HH.out.row 8 (t := 29) (sz := 1) (n := (psU sb 5).length) (v := .slice p3 (psU sb 5).length c3) (us := intC ((psU sb 5).map told)) rfl).rdv.at l2
                have ee2 : p3 = some g2 := by simpa using ee2
                subst ee2
                have z2 : World.cell? _ g2 = some (.int .i64 (told (rvSet sb 99).hd)) := hat2 0 _ hB.1
                obtain ⟨y, hy⟩ := rv_get HV.out hlt
                have hxl : x8.L.length ≤ 1000 := by rw [HV.out.len]; omega
                have okA : OkAr (h2W (rvSet sa 98) (rvSet sb 99) ep4 x8).ar := (nkS_ok (l := x8.L) (N := 10) (by rw [HV.out.len]; omega) (Nat.le_refl _)).ok (by omega)
                have CW := Way_q HH.out 1 rfl okA (told k) 0 (arAt_nk (l := x8.L) (by rw [HV.out.len]; exact hlt) hxl)
                rw [show (wayAr (told k) 0 (h2W (rvSet sa 98) (rvSet sb 99) ep4 x8).ar).1 = y.a from by show (wayAr (told k) 0 (nkS x8.L)).1 = _; rw [(nk_way hy hxl).1], rv_ways PA.out PB.out HV.out (.inr H12.out.1) (.inl H12.out.2) hy hlt] at CW
                have tA := told_beq hlt hA.2
                have tB := told_beq hlt hB.2
                clear hat hat1 hat2 hcc hc1 hc2 hxl okA hA hB hy
                by_cases eB : k = (rvSet sb 99).hd
                · rw [decide_eq_true eB] at tB
                  rw [if_pos ⟨H12.out.2, eB⟩] at CW
                  clear eB tA
                  have CW := Lib.hid CW
                  go_wp2_with fail
                  refine CW.out.mono ?_
                  rintro e w' ⟨rfl, hw⟩
                  have hw := hw.symm
                  subst hw
                  clear CW
                  go_wp2_with fail
                  exact ⟨⟨k + 1, by go_num, by omega, HH⟩, by simp [intOf]; omega⟩
                · rw [decide_eq_false eB] at tB
                  rw [if_neg (fun h => eB h.2)] at CW
                  rw [if_neg (fun h => absurd h.1 (by rw [H12.out.1]; decide))] at CW
                  clear eB tA
                  have CW := Lib.hid CW
                  go_wp2_with fail
                  refine CW.out.mono ?_
                  rintro e w' ⟨rfl, hw⟩
                  have hw := hw.symm
                  subst hw
                  clear CW
                  go_wp2_with fail
                  exact ⟨⟨k + 1, by go_num, by omega, HH⟩, by simp [intOf]; omega⟩
              · have hk5 : k = 5 := by omega
                subst hk5
                go_wp2_with fail
                go_ret
                exact ⟨rfl, HH.out.below⟩
end Go.Proofs.Ythkohomogknddaa
