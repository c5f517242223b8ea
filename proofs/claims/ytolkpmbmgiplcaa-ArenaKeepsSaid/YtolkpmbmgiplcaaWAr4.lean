/- ArenaKeeps: the law's walk. No condition but that what is handed in can be read. PRINTED by gen_keeps.py. -/
import Derived.Test.YtolkpmbmgiplcaaSmOpen
import Derived.Test.YtolkpmbmgiplcaaWAr2
namespace Go.Proofs.Ytolkpmbmgiplcaa
open Go Go.RowKit
set_option linter.unusedVariables false
set_option linter.unusedSimpArgs false
/-- The arena with one node. -/
def kpAr (nd : Nd) : Ar := ⟨[⟨nd, nd.ways, 0, false, 1, true⟩], [], 2, 1, 0⟩
theorem kp_at (nd : Nd) : arAt (kpAr nd) 1099511627777 = some 0 := by
  unfold arAt kpAr refOf
  simp
theorem kp_new (nd : Nd) : allocAr nd (newAr 2) = ((1099511627777, true), kpAr nd) := by rfl
theorem kp_look (nd : Nd) : lookAr 1099511627777 (kpAr nd) = (nd, kpAr nd) := by
  unfold lookAr
  rw [kp_at]
  rfl
theorem kp_way (nd : Nd) (j : Nat) (h : j < nd.ways.length) : wayAr 1099511627777 j (kpAr nd) = (nd.ways.getD j 0, kpAr nd) := by
  unfold wayAr
  rw [kp_at]
  have e : (kpAr nd).at 0 = ⟨nd, nd.ways, 0, false, 1, true⟩ := by rfl
  simp only [e]
  rw [if_pos ⟨by omega, by omega⟩]
  simp
theorem kp_ok (nd : Nd) (hnd : nd.few) : OkN (kpAr nd) 1 := by
  have := (OkN.new 2).alloc nd hnd
  rwa [kp_new] at this
theorem Sm.few (s : Sm) : s.nd.few := by
  have h1 := s.keys_len s.keys.length s.ways.length (Nat.le_refl _)
  have h2 := s.ways_len s.keys.length s.ways.length (Nat.le_refl _)
  exact ⟨by unfold Sm.nd; omega, by unfold Sm.nd; omega, by unfold Sm.nd; omega⟩
theorem Heap.putRow {w0 w : World} {l : List Piece} (h : Heap w0 w l) (i : Nat) {t : TypeId} {sz g off n cap : Nat} {us : List Value} (hi : l[i]? = some (rowP t sz (.slice (some ⟨g, off, none⟩) n cap) n us)) (j : Nat) (hj : j < n * sz) (x : Value) :
    Heap w0 (w.setCell ⟨g, off + j, none⟩ x) (l.set i (rowP t sz (.slice (some ⟨g, off, none⟩) n cap) n (us.set j x))) := by
  obtain ⟨S, h1, hs, U⟩ := h.take i hi
  have hg := h1.2 g rfl
  refine U (S' := S) ((Fr.refl S w).setCell (.inl hg.1) x) ⟨h1.1.put j hj x, fun g' hg' => ?_⟩ (fun k hk => .inl hk)
  obtain rfl : g = g' := by simpa [Value.ownBlock] using hg'
  obtain ⟨c, hc⟩ := hg.2
  exact ⟨hg.1, _, hc.set (off + j) x⟩
def knL (s : Sm) (a H bn : Nat) (va vb vp vk vn : Value) (us1 us2 us3 : List Value) : List Piece :=
  [blkP H 44 #[.bool s.inner, .bool s.tagged, va, vb], areP a (kpAr s.nd), blkP bn 36 #[.bool s.nd.inner, .bool s.nd.tagged, vp, vk, vn],
   rowP 47 2 vp s.nd.pairs.length us1, rowP 2 1 vk s.nd.keys.length us2, rowP 27 1 vn s.nd.ways.length us3]
theorem Heap.last6 {w0 w : World} {a b c d e f : Piece} (h : Heap w0 w [a, b, c, d, e, f]) : Heap w0 w [a, b, f, c, d, e] :=
  h.idx (fun i => if i = 2 then 5 else if 3 ≤ i ∧ i ≤ 5 then i - 1 else i)
    (fun i hi => by
      match i, hi with
      | 0, _ => rfl
      | 1, _ => rfl
      | 2, _ => rfl
      | 3, _ => rfl
      | 4, _ => rfl
      | 5, _ => rfl)
    (fun i j hi hj => by simp at hi hj; split <;> split <;> (try split) <;> (try split) <;> omega)
theorem Heap.drop3b {w0 w : World} {a b c d e f x y z : Piece} (h : Heap w0 w ([a, b, c, d, e, f] ++ [x, y, z])) : Heap w0 w [a, b, c, x, y, z] := Heap.mid (l := [a, b, c]) (m := [d, e, f]) (r := [x, y, z]) h
set_option maxHeartbeats 4000000 in
theorem ArenaKeeps_walk (s : Sm) (va vb : Value) (w : World) (ha : RdV w va s.keys.length 1 (s.keys.map (Value.int .i8))) (hb : RdV w vb s.ways.length 1 (s.ways.map (Value.int .u8)))
    (ra : ∀ x ∈ s.keys, -128 ≤ x ∧ x ≤ 127) (rb : ∀ x ∈ s.ways, 0 ≤ x ∧ x ≤ 255) :
    Calls Try.prog 4 #[.agg #[.bool s.inner, .bool s.tagged, va, vb]] w fun e w' => e = .returned (.bool true) ∧ Below w.heap.size w w' := by
  have h1 := (Heap.start w).alloc 44 #[.bool s.inner, .bool s.tagged, va, vb]
  have HA := Lib.hid ha
  have HB := Lib.hid hb
  have RA := Lib.hid ra
  have RB := Lib.hid rb
  have H1 := Lib.hid h1
  obtain ⟨a1, c1, rfl⟩ := ha.len
  obtain ⟨a2, c2, rfl⟩ := hb.len
  have hf1 := s.few.1
  have hf2 := s.few.2.1
  have hf3 := s.few.2.2
  generalize hH : w.heap.size = H at *
  have C1 := Lib.hid (Awake_calls _ _ (Fr.refl nob (w.alloc (.cells #[.bool s.inner, .bool s.tagged, .slice a1 s.keys.length c1, .slice a2 s.ways.length c2] 44))))
  clear ha hb h1 ra rb
  go_enter Try.func4, Try.ntmps4
  go_wp2_with fail
  refine C1.out.mono ?_
  rintro e w1 ⟨rfl, F1⟩
  have H2 := H1.out.go F1
  clear H1 C1 F1
  go_wp2_with fail
  refine (New_h H2 2).mono ?_
  rintro e w2 ⟨rfl, H3⟩
  generalize w1.heap.size = a at *
  have hbS := H3.blk 0 rfl
  have s0 : w2.cell? ⟨H, 0, none⟩ = some (.bool s.inner) := hbS.cell 0
  have s1 : w2.cell? ⟨H, 1, none⟩ = some (.bool s.tagged) := hbS.cell 1
  have s2 : w2.cell? ⟨H, 2, none⟩ = some (.slice a1 s.keys.length c1) := hbS.cell 2
  have s3 : w2.cell? ⟨H, 3, none⟩ = some (.slice a2 s.ways.length c2) := hbS.cell 3
  have HH := Lib.hid H3
  clear hbS H2 H3
  go_wp2_with fail
  refine (Node_h HH.out s _ _ HA.out HB.out RA.out RB.out).mono ?_
  rintro e w3 ⟨vp, vk, vn, rfl, H4⟩
  clear HH s0 s1 s2 s3
  obtain ⟨ap, cp, rfl, _, _⟩ := (H4.row 2 rfl).form
  obtain ⟨ak, ck, rfl, _, _⟩ := (H4.row 3 rfl).form
  obtain ⟨an, cn, rfl, _, _⟩ := (H4.row 4 rfl).form
  have H5 := H4.alloc 36 #[.bool s.nd.inner, .bool s.nd.tagged, .slice ap s.nd.pairs.length cp, .slice ak s.nd.keys.length ck, .slice an s.nd.ways.length cn]
  have hbn := H5.blk 5 rfl
  have HQ := Lib.hid H4
  clear H4
  unfold ndV
  generalize hbq : w3.heap.size = bn at *
  have C1 := Alloc_h H5 1 rfl ((OkN.new 2).more (by omega)) s.nd s.few (.slice ap s.nd.pairs.length cp) (.slice ak s.nd.keys.length ck) (.slice an s.nd.ways.length cn) (fun z q hz => ⟨(hz.row 2 rfl).rdv, (hz.row 3 rfl).rdv, (hz.row 4 rfl).rdv⟩)
  rw [kp_new] at C1
  have CC := Lib.hid C1
  unfold ndV at CC
  clear C1 H5 hbn
  go_wp2_with fail
  refine CC.out.mono ?_
  rintro e w4 ⟨rfl, H6⟩
  have H7 : Heap w w4 (knL s a H bn (.slice a1 s.keys.length c1) (.slice a2 s.ways.length c2) (.slice ap s.nd.pairs.length cp) (.slice ak s.nd.keys.length ck) (.slice an s.nd.ways.length cn) (pairC s.nd.pairs) (intC s.nd.keys) (intC s.nd.ways)) := Heap.last6 H6
  have HH := Lib.hid H7
  clear H6 H7 CC HQ
  go_wp2_with fail
  go_loopw [23] (fun i wr => ∃ (k : Nat) (vp vk vn : Value) (us1 us2 us3 : List Value), k ≤ 2 ∧ i = .int .i64 k ∧ Hid (Heap w wr (knL s a H bn (.slice a1 s.keys.length c1) (.slice a2 s.ways.length c2) vp vk vn us1 us2 us3))) (fun i _ => 2 - (intOf i).toNat)
  case atStart => exact ⟨0, _, _, _, _, _, _, by omega, rfl, HH⟩
  case round =>
    clear HH
    obtain ⟨k, vp, vk, vn, us1, us2, us3, hk, rfl, HH⟩ := hrel
    obtain ⟨ap, cp, rfl, _, _⟩ := (HH.out.row 3 rfl).form
    obtain ⟨ak, ck, rfl, _, _⟩ := (HH.out.row 4 rfl).form
    obtain ⟨an, cn, rfl, _, _⟩ := (HH.out.row 5 rfl).form
    have hbn := HH.out.blk 2 rfl
    have n2 : wr.cell? ⟨bn, 2, none⟩ = some (.slice ap s.nd.pairs.length cp) := hbn.cell 2
    have n3 : wr.cell? ⟨bn, 3, none⟩ = some (.slice ak s.nd.keys.length ck) := hbn.cell 3
    have n4 : wr.cell? ⟨bn, 4, none⟩ = some (.slice an s.nd.ways.length cn) := hbn.cell 4
    have ln := hbn.lt
    clear hbn
    by_cases hlt : k < 2
    · go_wp2_with fail
      go_loopw [28] (fun i wr => ∃ (j : Nat) (y : List Value), j ≤ s.nd.pairs.length ∧ i = .int .i64 j ∧ Hid (Heap w wr (knL s a H bn (.slice a1 s.keys.length c1) (.slice a2 s.ways.length c2) (.slice ap s.nd.pairs.length cp) (.slice ak s.nd.keys.length ck) (.slice an s.nd.ways.length cn) y us2 us3))) (fun i _ => s.nd.pairs.length - (intOf i).toNat)
      case atStart => exact ⟨0, us1, Nat.zero_le _, rfl, HH⟩
      case round =>
        clear n2 n3 n4 ln HH
        obtain ⟨j, us1, hj, rfl, HH⟩ := hrel
        have hbn := HH.out.blk 2 rfl
        have n2 : wr.cell? ⟨bn, 2, none⟩ = some (.slice ap s.nd.pairs.length cp) := hbn.cell 2
        have n3 : wr.cell? ⟨bn, 3, none⟩ = some (.slice ak s.nd.keys.length ck) := hbn.cell 3
        have n4 : wr.cell? ⟨bn, 4, none⟩ = some (.slice an s.nd.ways.length cn) := hbn.cell 4
        have ln := hbn.lt
        clear hbn
        by_cases hlt : j < s.nd.pairs.length
        · have q := HH.out.row 3 rfl
          have hul := q.1
          obtain ⟨g, off, cur, e, hcur, hcap, hat⟩ := q.at (by omega)
          subst e
          obtain ⟨y0, hy0⟩ : ∃ y, us1[(j * 2 + 0)]? = some y := ⟨_, List.getElem?_eq_getElem (show (j * 2 + 0) < us1.length by omega)⟩
          have x1 : wr.cell? ⟨g, off + j * 2, none⟩ = some y0 := hat _ _ hy0
          have x2 : wr.frozen? ⟨g, off + j * 2, none⟩ = false := hcur.froz _
          have x3 := hcur.lt
          clear hat hcur q hy0
          go_wp2_with fail
          refine ⟨⟨j + 1, us1.set (j * 2 + 0) (.int .i64 (-77)), by omega, by go_num, Lib.hid ?_⟩, by simp [intOf]; omega⟩
          exact HH.out.putRow 3 rfl (j * 2 + 0) (by omega) (.int .i64 (-77))
        · go_wp2_with fail
          go_loopw [41] (fun i wr => ∃ (j : Nat) (y : List Value), j ≤ s.nd.keys.length ∧ i = .int .i64 j ∧ Hid (Heap w wr (knL s a H bn (.slice a1 s.keys.length c1) (.slice a2 s.ways.length c2) (.slice ap s.nd.pairs.length cp) (.slice ak s.nd.keys.length ck) (.slice an s.nd.ways.length cn) us1 y us3))) (fun i _ => s.nd.keys.length - (intOf i).toNat)
          case atStart => exact ⟨0, us2, Nat.zero_le _, rfl, HH⟩
          case round =>
            clear n2 n3 n4 ln HH
            obtain ⟨j, us2, hj, rfl, HH⟩ := hrel
            have hbn := HH.out.blk 2 rfl
            have n2 : wr.cell? ⟨bn, 2, none⟩ = some (.slice ap s.nd.pairs.length cp) := hbn.cell 2
            have n3 : wr.cell? ⟨bn, 3, none⟩ = some (.slice ak s.nd.keys.length ck) := hbn.cell 3
            have n4 : wr.cell? ⟨bn, 4, none⟩ = some (.slice an s.nd.ways.length cn) := hbn.cell 4
            have ln := hbn.lt
            clear hbn
            by_cases hlt : j < s.nd.keys.length
            · have q := HH.out.row 4 rfl
              have hul := q.1
              obtain ⟨g, off, cur, e, hcur, hcap, hat⟩ := q.at (by omega)
              subst e
              obtain ⟨y0, hy0⟩ : ∃ y, us2[j]? = some y := ⟨_, List.getElem?_eq_getElem (show j < us2.length by omega)⟩
              have x1 : wr.cell? ⟨g, off + j, none⟩ = some y0 := hat _ _ hy0
              have x2 : wr.frozen? ⟨g, off + j, none⟩ = false := hcur.froz _
              have x3 := hcur.lt
              clear hat hcur q hy0
              go_wp2_with fail
              refine ⟨⟨j + 1, us2.set j (.int .i64 (-77)), by omega, by go_num, Lib.hid ?_⟩, by simp [intOf]; omega⟩
              exact HH.out.putRow 4 rfl j (by omega) (.int .i64 (-77))
            · go_wp2_with fail
              go_loopw [54] (fun i wr => ∃ (j : Nat) (y : List Value), j ≤ s.nd.ways.length ∧ i = .int .i64 j ∧ Hid (Heap w wr (knL s a H bn (.slice a1 s.keys.length c1) (.slice a2 s.ways.length c2) (.slice ap s.nd.pairs.length cp) (.slice ak s.nd.keys.length ck) (.slice an s.nd.ways.length cn) us1 us2 y))) (fun i _ => s.nd.ways.length - (intOf i).toNat)
              case atStart => exact ⟨0, us3, Nat.zero_le _, rfl, HH⟩
              case round =>
                clear n2 n3 n4 ln HH
                obtain ⟨j, us3, hj, rfl, HH⟩ := hrel
                have hbn := HH.out.blk 2 rfl
                have n2 : wr.cell? ⟨bn, 2, none⟩ = some (.slice ap s.nd.pairs.length cp) := hbn.cell 2
                have n3 : wr.cell? ⟨bn, 3, none⟩ = some (.slice ak s.nd.keys.length ck) := hbn.cell 3
                have n4 : wr.cell? ⟨bn, 4, none⟩ = some (.slice an s.nd.ways.length cn) := hbn.cell 4
                have ln := hbn.lt
                clear hbn
                by_cases hlt : j < s.nd.ways.length
                · have q := HH.out.row 5 rfl
                  have hul := q.1
                  obtain ⟨g, off, cur, e, hcur, hcap, hat⟩ := q.at (by omega)
                  subst e
                  obtain ⟨y0, hy0⟩ : ∃ y, us3[j]? = some y := ⟨_, List.getElem?_eq_getElem (show j < us3.length by omega)⟩
                  have x1 : wr.cell? ⟨g, off + j, none⟩ = some y0 := hat _ _ hy0
                  have x2 : wr.frozen? ⟨g, off + j, none⟩ = false := hcur.froz _
                  have x3 := hcur.lt
                  clear hat hcur q hy0
                  go_wp2_with fail
                  refine ⟨⟨j + 1, us3.set j (.int .i64 (-77)), by omega, by go_num, Lib.hid ?_⟩, by simp [intOf]; omega⟩
                  exact HH.out.putRow 5 rfl j (by omega) (.int .i64 (-77))
                · go_wp2_with fail
                  clear n2 n3 n4 ln
                  have C1 := Look_h HH.out 1 rfl ((kp_ok _ s.few).ok (by omega)) (kp_ok _ s.few).nds 1099511627777
                  rw [kp_look] at C1
                  refine C1.mono ?_
                  clear C1
                  rintro e w5 ⟨vp, vk, vn, rfl, H6⟩
                  obtain ⟨bp, dp, rfl, _, _⟩ := (H6.row 6 rfl).form
                  obtain ⟨bk, dk, rfl, _, _⟩ := (H6.row 7 rfl).form
                  obtain ⟨bw, dw, rfl, _, _⟩ := (H6.row 8 rfl).form
                  have hbn := H6.blk 2 rfl
                  have n0 : w5.cell? ⟨bn, 0, none⟩ = some (.bool s.nd.inner) := hbn.cell 0
                  have n1 : w5.cell? ⟨bn, 1, none⟩ = some (.bool s.nd.tagged) := hbn.cell 1
                  have n2 : w5.cell? ⟨bn, 2, none⟩ = some (.slice ap s.nd.pairs.length cp) := hbn.cell 2
                  have n3 : w5.cell? ⟨bn, 3, none⟩ = some (.slice ak s.nd.keys.length ck) := hbn.cell 3
                  have n4 : w5.cell? ⟨bn, 4, none⟩ = some (.slice an s.nd.ways.length cn) := hbn.cell 4
                  have z0 := hbn.froz 0
                  have z1 := hbn.froz 1
                  have z2 := hbn.froz 2
                  have z3 := hbn.froz 3
                  have z4 := hbn.froz 4
                  have ln := hbn.lt
                  have HQ := Lib.hid H6
                  clear hbn H6 HH
                  unfold ndV
                  go_upto_region 24 with fail
                  have H7 := Heap.set5 (l := knL s a H bn (.slice a1 s.keys.length c1) (.slice a2 s.ways.length c2) (.slice ap s.nd.pairs.length cp) (.slice ak s.nd.keys.length ck) (.slice an s.nd.ways.length cn) us1 us2 us3) HQ.out 2 rfl (.bool s.nd.inner) (.bool s.nd.tagged) (.slice bp s.nd.pairs.length dp) (.slice bk s.nd.keys.length dk) (.slice bw s.nd.ways.length dw)
                  generalize (((((w5.setCell ⟨bn, 0, none⟩ (.bool s.nd.inner)).setCell ⟨bn, 1, none⟩ (.bool s.nd.tagged)).setCell ⟨bn, 2, none⟩ (.slice bp s.nd.pairs.length dp)).setCell ⟨bn, 3, none⟩ (.slice bk s.nd.keys.length dk)).setCell ⟨bn, 4, none⟩ (.slice bw s.nd.ways.length dw)) = w6 at H7 ⊢
                  have H8 : Heap w w6 (knL s a H bn (.slice a1 s.keys.length c1) (.slice a2 s.ways.length c2) (.slice bp s.nd.pairs.length dp) (.slice bk s.nd.keys.length dk) (.slice bw s.nd.ways.length dw) (pairC s.nd.pairs) (intC s.nd.keys) (intC s.nd.ways)) := Heap.drop3b H7
                  clear n0 n1 n2 n3 n4 z0 z1 z2 z3 z4 ln H7 HQ
                  have hbn := H8.blk 2 rfl
                  have hbS := H8.blk 0 rfl
                  have n0 : w6.cell? ⟨bn, 0, none⟩ = some (.bool s.nd.inner) := hbn.cell 0
                  have n1 : w6.cell? ⟨bn, 1, none⟩ = some (.bool s.nd.tagged) := hbn.cell 1
                  have n2 : w6.cell? ⟨bn, 2, none⟩ = some (.slice bp s.nd.pairs.length dp) := hbn.cell 2
                  have n3 : w6.cell? ⟨bn, 3, none⟩ = some (.slice bk s.nd.keys.length dk) := hbn.cell 3
                  have n4 : w6.cell? ⟨bn, 4, none⟩ = some (.slice bw s.nd.ways.length dw) := hbn.cell 4
                  have s0 : w6.cell? ⟨H, 0, none⟩ = some (.bool s.inner) := hbS.cell 0
                  have s1 : w6.cell? ⟨H, 1, none⟩ = some (.bool s.tagged) := hbS.cell 1
                  have s2 : w6.cell? ⟨H, 2, none⟩ = some (.slice a1 s.keys.length c1) := hbS.cell 2
                  have s3 : w6.cell? ⟨H, 3, none⟩ = some (.slice a2 s.ways.length c2) := hbS.cell 3
                  have HK := Lib.hid H8
                  clear hbn hbS H8
                  go_cut [70] (fun s70 wx => s70 = .bool false ∧ Heap w wx (knL s a H bn (.slice a1 s.keys.length c1) (.slice a2 s.ways.length c2) (.slice bp s.nd.pairs.length dp) (.slice bk s.nd.keys.length dk) (.slice bw s.nd.ways.length dw) (pairC s.nd.pairs) (intC s.nd.keys) (intC s.nd.ways)))
                  case first =>
                    go_region_with (first
                      | (go_at_call 17; refine (Node_h (w0 := w) (l := knL s a H bn (.slice a1 s.keys.length c1) (.slice a2 s.ways.length c2) (.slice bp s.nd.pairs.length dp) (.slice bk s.nd.keys.length dk) (.slice bw s.nd.ways.length dw) (pairC s.nd.pairs) (intC s.nd.keys) (intC s.nd.ways)) (by repeat (first | exact HK.out | apply Heap.drew | apply Heap.drewN)) s _ _ HA.out HB.out RA.out RB.out).mono ?_; rintro e w8 ⟨vp2, vk2, vn2, rfl, H9⟩; have t0 : w8.cell? ⟨bn, 0, none⟩ = some (.bool s.nd.inner) := (H9.blk 2 rfl).cell 0; have t1 : w8.cell? ⟨bn, 1, none⟩ = some (.bool s.nd.tagged) := (H9.blk 2 rfl).cell 1; have t2 : w8.cell? ⟨bn, 2, none⟩ = some (.slice bp s.nd.pairs.length dp) := (H9.blk 2 rfl).cell 2; have t3 : w8.cell? ⟨bn, 3, none⟩ = some (.slice bk s.nd.keys.length dk) := (H9.blk 2 rfl).cell 3; have t4 : w8.cell? ⟨bn, 4, none⟩ = some (.slice bw s.nd.ways.length dw) := (H9.blk 2 rfl).cell 4; have HN := Lib.hid H9; clear H9)
                      | (go_at_call 19; refine (SameN_calls s.nd (.slice bp s.nd.pairs.length dp) (.slice bk s.nd.keys.length dk) (.slice bw s.nd.ways.length dw) vp2 vk2 vn2 _ (NdR.fr (w := w8) ⟨(HN.out.row 3 rfl).rdv, (HN.out.row 4 rfl).rdv, (HN.out.row 5 rfl).rdv⟩ (by repeat (first | exact Fr.refl _ _ | apply Fr.drew | apply Fr.drewN))) (NdR.fr (w := w8) ⟨(HN.out.row 6 rfl).rdv, (HN.out.row 7 rfl).rdv, (HN.out.row 8 rfl).rdv⟩ (by repeat (first | exact Fr.refl _ _ | apply Fr.drew | apply Fr.drewN)))).mono ?_; rintro e w9 ⟨rfl, F9⟩))
                    all_goals
                      go_wp2_with fail
                      go_meet
                      refine ⟨rfl, ?_⟩
                      refine Heap.go (w := w9) ?_ (by repeat (first | exact Fr.refl _ _ | apply Fr.drew | apply Fr.drewN))
                      refine Heap.go (Heap.go HN.out.first (by repeat (first | exact Fr.refl _ _ | apply Fr.drew | apply Fr.drewN))) F9
                  case rest =>
                    obtain ⟨rfl, HZ⟩ := hcut
                    have HZZ := Lib.hid HZ
                    clear HZ n0 n1 n2 n3 n4 s0 s1 s2 s3
                    go_wp2_with fail
                    exact ⟨⟨k + 1, _, _, _, _, _, _, by omega, by go_num, HZZ⟩, by simp [intOf]; omega⟩
    · have hbS := HH.out.blk 0 rfl
      have s0 : wr.cell? ⟨H, 0, none⟩ = some (.bool s.inner) := hbS.cell 0
      have s1 : wr.cell? ⟨H, 1, none⟩ = some (.bool s.tagged) := hbS.cell 1
      have s2 : wr.cell? ⟨H, 2, none⟩ = some (.slice a1 s.keys.length c1) := hbS.cell 2
      have s3 : wr.cell? ⟨H, 3, none⟩ = some (.slice a2 s.ways.length c2) := hbS.cell 3
      clear hbS n2 n3 n4 ln
      go_wp2_with fail
      refine (Node_h HH.out s _ _ HA.out HB.out RA.out RB.out).mono ?_
      rintro e w8 ⟨vp2, vk2, vn2, rfl, H9⟩
      obtain ⟨bp, dp, rfl, _, _⟩ := (H9.row 6 rfl).form
      obtain ⟨bk, dk, rfl, _, _⟩ := (H9.row 7 rfl).form
      obtain ⟨bw, dw, rfl, _, _⟩ := (H9.row 8 rfl).form
      unfold ndV
      have hf1 := field_ways s.nd.inner s.nd.tagged bp bk bw s.nd.pairs.length s.nd.keys.length s.nd.ways.length dp dk dw w8
      have hf2 := field_waysways bk bw s.nd.keys.length s.nd.ways.length dk dw w8
      have RR := (H9.row 8 rfl).rdv
      have RZ := Lib.hid RR
      have HQ := Lib.hid H9
      clear RR H9 HH s0 s1 s2 s3
      go_wp2_with fail
      clear hf1 hf2 RZ
      go_loopw [77] (fun i wr => ∃ (j : Nat), j ≤ s.nd.ways.length ∧ i = .int .i64 j ∧ Hid (Heap w wr (knL s a H bn (.slice a1 s.keys.length c1) (.slice a2 s.ways.length c2) (.slice ap s.nd.pairs.length cp) (.slice ak s.nd.keys.length ck) (.slice an s.nd.ways.length cn) us1 us2 us3 ++ ndL s.nd (.slice bp s.nd.pairs.length dp) (.slice bk s.nd.keys.length dk) (.slice bw s.nd.ways.length dw)))) (fun i _ => s.nd.ways.length - (intOf i).toNat)
      case atStart => exact ⟨0, Nat.zero_le _, rfl, HQ⟩
      case round =>
        clear HQ
        obtain ⟨j, hj, rfl, HQ⟩ := hrel
        by_cases hlt : j < s.nd.ways.length
        · have q := HQ.out.row 8 rfl
          obtain ⟨g, off, cur, e, hcur, hcap, hat⟩ := q.at (by omega)
          subst e
          obtain ⟨x, hx⟩ : ∃ x, s.nd.ways[j]? = some x := ⟨_, List.getElem?_eq_getElem hlt⟩
          have x1 : wr.cell? ⟨g, off + j, none⟩ = some (.int .i64 x) := hat _ _ (intC_get' _ _ _ hx)
          have e : s.nd.ways.getD j 0 = x := by simp [List.getD, hx]
          have C1 := Way_h HQ.out 1 rfl ((kp_ok _ s.few).ok (by omega)) 1099511627777 (j : Int)
          rw [kp_way _ j hlt, e] at C1
          have CC := Lib.hid C1
          clear C1 hat hcur q e hx HQ
          go_wp2_with fail
          refine CC.out.mono ?_
          rintro e w9 ⟨rfl, H9⟩
          have HQ : Hid (Heap w w9 (knL s a H bn (.slice a1 s.keys.length c1) (.slice a2 s.ways.length c2) (.slice ap s.nd.pairs.length cp) (.slice ak s.nd.keys.length ck) (.slice an s.nd.ways.length cn) us1 us2 us3 ++ ndL s.nd (.slice bp s.nd.pairs.length dp) (.slice bk s.nd.keys.length dk) (.slice (some ⟨g, off, none⟩) s.nd.ways.length dw))) := Lib.hid H9
          clear H9 CC
          go_wp2_with fail
          exact ⟨⟨j + 1, by omega, by go_num, HQ⟩, by simp [intOf]; omega⟩
        · go_wp2_with fail
          go_ret
          refine ⟨rfl, ?_⟩
          rw [← hH]
          exact HQ.out.below
end Go.Proofs.Ytolkpmbmgiplcaa
