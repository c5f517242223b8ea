/- ArenaSwaps: the law's walk. No condition but that the numbers are of their kinds. -/
import Derived.Test.YtolkpmbmgiplcaaWAr1
namespace Go.Proofs.Ytolkpmbmgiplcaa
open Go Go.RowKit
set_option linter.unusedVariables false
set_option linter.unusedSimpArgs false
def swNd (old : Int) : Nd := ⟨true, false, [], [1, 2], [old, old, old]⟩
/-- An arena of one place, with these ways and this record. -/
def swAr (nd : Nd) (ws : List Int) (info : Int) : Ar := ⟨[⟨nd, ws, info, false, 1, true⟩], [], 3, 1, 0⟩
theorem sw_at (nd : Nd) (ws : List Int) (info : Int) : arAt (swAr nd ws info) 1099511627777 = some 0 := by
  unfold arAt swAr refOf
  simp
theorem sw_get (nd : Nd) (ws : List Int) (info : Int) : (swAr nd ws info).at 0 = ⟨nd, ws, info, false, 1, true⟩ := by rfl
theorem sw_put (nd : Nd) (ws ws' : List Int) (info info' : Int) : (swAr nd ws info).put 0 ⟨nd, ws', info', false, 1, true⟩ = swAr nd ws' info' := by rfl
theorem sw_new (nd : Nd) : allocAr nd (newAr 3) = ((1099511627777, true), swAr nd nd.ways 0) := by rfl
theorem sw_way (nd : Nd) (ws : List Int) (info : Int) (j : Nat) (h : j < ws.length) : wayAr 1099511627777 j (swAr nd ws info) = (ws.getD j 0, swAr nd ws info) := by
  unfold wayAr
  rw [sw_at]
  simp only [sw_get]
  rw [if_pos ⟨by omega, by omega⟩]
  simp
theorem sw_swap (nd : Nd) (ws : List Int) (info : Int) (j : Nat) (h : j < ws.length) (old now : Int) : swapWayAr 1099511627777 j old now (swAr nd ws info) = if ws.getD j 0 = old then (true, swAr nd (ws.set j now) info) else (false, swAr nd ws info) := by
  unfold swapWayAr
  rw [sw_at]
  simp only [sw_get]
  by_cases e : ws.getD j 0 = old
  · rw [if_pos ⟨by omega, by omega, by simpa using e⟩, if_pos e]
    simp [Ar.put, swAr]
  · rw [if_neg (fun x => e (by simpa using x.2.2)), if_neg e]
theorem sw_info (nd : Nd) (ws : List Int) (info : Int) : infoAr 1099511627777 (swAr nd ws info) = (info, swAr nd ws info) := by
  unfold infoAr
  rw [sw_at]
  simp only [sw_get]
theorem sw_swapInfo (nd : Nd) (ws : List Int) (info old now : Int) : swapInfoAr 1099511627777 old now (swAr nd ws info) = if info = old then (true, swAr nd ws now) else (false, swAr nd ws info) := by
  unfold swapInfoAr
  rw [sw_at]
  simp only [sw_get, sw_put]
theorem sw_look (nd : Nd) (ws : List Int) (info : Int) : lookAr 1099511627777 (swAr nd ws info) = (nd, swAr nd ws info) := by
  unfold lookAr
  rw [sw_at]
  simp only [sw_get]
theorem sw_ok (nd : Nd) (hnd : nd.few) (ws : List Int) (info : Int) : OkN (swAr nd ws info) 1 := by
  refine ⟨by simp [swAr], by simp [swAr], by simp [swAr], fun s hs => ?_, by simp [swAr], fun i hi => by simp [swAr] at hi, by simp [swAr]⟩
  simp [swAr] at hs
  subst hs
  exact ⟨Nat.le_refl _, hnd⟩
theorem field_ways (x y : Bool) (b1 b2 b3 : Option Addr) (n1 n2 n3 d1 d2 d3 : Nat) (w : World) : (Instr.field 36 (.agg #[.bool x, .bool y, .slice b1 n1 d1, .slice b2 n2 d2, .slice b3 n3 d3]) 3).run Try.prog w = .ok (.agg #[.slice b2 n2 d2, .slice b3 n3 d3]) w := by kernel_rfl
theorem field_waysways (b2 b3 : Option Addr) (n2 n3 d2 d3 : Nat) (w : World) : (Instr.field 34 (.agg #[.slice b2 n2 d2, .slice b3 n3 d3]) 1).run Try.prog w = .ok (.slice b3 n3 d3) w := by kernel_rfl
set_option maxHeartbeats 2000000 in
theorem ArenaSwaps_walk (old : Int) (h0 : -9223372036854775808 ≤ old ∧ old ≤ 9223372036854775807) (x : Int) (h1 : -9223372036854775808 ≤ x ∧ x ≤ 9223372036854775807) (y : Int) (h2 : -9223372036854775808 ≤ y ∧ y ≤ 9223372036854775807) (i : Int) (hi : 0 ≤ i ∧ i ≤ 255) (w : World) :
    Calls Try.prog 6 #[.int .i64 old, .int .i64 x, .int .i64 y, .int .u8 i] w fun e w' => e = .returned (.bool true) ∧ Below w.heap.size w w' := by
  obtain ⟨i0, i1⟩ := hi
  clear h0 h1 h2
  by_cases hx : x = old
  · have hxb : (x == old) = true := by simpa using hx
    clear hx
    go_enter Try.func6, Try.ntmps6
    go_wp2_with fail
    refine (Awake_calls w _ (Fr.refl _ _)).mono ?_
    rintro e w1 ⟨rfl, F1⟩
    go_wp2_with fail
    go_ret
    exact ⟨rfl, F1.below (Nat.le_refl _) (fun _ x => x.elim)⟩
  · have hxb : (x == old) = false := by simpa using hx
    obtain ⟨j, hj⟩ : ∃ j : Nat, i % 3 = (j : Int) := ⟨(i % 3).toNat, by omega⟩
    have hj3 : j < 3 := by omega
    have hnd : (swNd old).few := ⟨by simp [swNd], by simp [swNd], by simp [swNd]⟩
    have gj : [old, old, old].getD j 0 = old := by rcases (by omega : j = 0 ∨ j = 1 ∨ j = 2) with rfl | rfl | rfl <;> rfl
    have gx : ([old, old, old].set j x).getD j 0 = x := by rcases (by omega : j = 0 ∨ j = 1 ∨ j = 2) with rfl | rfl | rfl <;> rfl
    obtain ⟨j1, hj1⟩ : ∃ j1 : Nat, ((j : Int) + 1) % 3 = (j1 : Int) := ⟨(j + 1) % 3, by omega⟩
    have hj13 : j1 < 3 := by omega
    have go1 : ([old, old, old].set j x).getD j1 0 = old := by rcases (by omega : j = 0 ∨ j = 1 ∨ j = 2) with rfl | rfl | rfl <;> rcases (by omega : j1 = 0 ∨ j1 = 1 ∨ j1 = 2) with rfl | rfl | rfl <;> first | rfl | omega
    have W1 := sw_swap (swNd old) [old, old, old] 0 j hj3 old x
    rw [if_pos gj] at W1
    have W2 := sw_swap (swNd old) ([old, old, old].set j x) 0 j (by simpa using hj3) old y
    rw [gx, if_neg hx] at W2
    have V1 := sw_way (swNd old) ([old, old, old].set j x) 0 j (by simpa using hj3)
    rw [gx] at V1
    have V2 := sw_way (swNd old) ([old, old, old].set j x) 0 j1 (by simpa using hj13)
    rw [go1] at V2
    have I1 := sw_swapInfo (swNd old) ([old, old, old].set j x) old old x
    rw [if_pos rfl] at I1
    have I2 := sw_swapInfo (swNd old) ([old, old, old].set j x) x old y
    rw [if_neg hx] at I2
    have ALL := Lib.hid (And.intro W1 (And.intro W2 (And.intro V1 (And.intro V2 (And.intro I1 I2)))))
    have HJ := Lib.hid hj
    have HJ1 := Lib.hid hj1
    have HX := Lib.hid hx
    have HND := Lib.hid hnd
    have HG := Lib.hid gj
    clear W1 W2 V1 V2 I1 I2 gj gx go1 hj hj1 hx hnd
    go_enter Try.func6, Try.ntmps6
    go_wp2_with fail
    refine (Awake_calls w _ (Fr.refl _ _)).mono ?_
    rintro e w1 ⟨rfl, F1⟩
    have H1 : Heap w w1 [] := (Heap.start w).go F1
    clear F1
    go_wp2_with fail
    refine (New_h H1 3).mono ?_
    rintro e w2 ⟨rfl, H2⟩
    generalize w1.heap.size = a at *
    have H2 : Heap w w2 [areP a (newAr 3)] := H2
    clear H1
    go_upto_region 7 with fail
    have H3 : Heap w (w2.alloc (.cells #[.int .i64 old, .int .i64 old, .int .i64 old] 27)) [areP a (newAr 3), blkP w2.heap.size 27 #[.int .i64 old, .int .i64 old, .int .i64 old]] := H2.alloc 27 _
    generalize w2.heap.size = B at *
    generalize w2.alloc (.cells #[.int .i64 old, .int .i64 old, .int .i64 old] 27) = w3 at *
    have H4 : Heap w (w3.alloc (.cells #[.int .i64 1, .int .i64 2] 2)) [areP a (newAr 3), blkP B 27 #[.int .i64 old, .int .i64 old, .int .i64 old], blkP w3.heap.size 2 #[.int .i64 1, .int .i64 2]] := H3.alloc 2 _
    have C1 := Alloc_h H4 0 rfl ((OkN.new 3).more (by omega)) (swNd old) HND.out (.slice none 0 0) (.slice (some ⟨w3.heap.size, 0, none⟩) 2 2) (.slice (some ⟨B, 0, none⟩) 3 3) (fun z q hz => ⟨RdV_nil z 2, RdV.block (hz.blk 2 rfl) rfl (by decide), RdV.block (hz.blk 1 rfl) rfl (by decide)⟩)
    rw [sw_new] at C1
    have CC := Lib.hid C1
    clear C1
    unfold ndV swNd at CC
    go_wp2_with fail
    refine CC.out.mono ?_
    rintro e w4 ⟨rfl, H5⟩
    clear CC H4
    have H5 := (show Heap w w4 ([areP a (swAr (swNd old) [old, old, old] 0)] ++ _) from H5).first
    go_upto_region 9 with fail
    rw [HJ.out]
    have C1 := SwapWay_h H5 0 rfl ((sw_ok _ HND.out _ _).ok (by omega)) 1099511627777 j old x
    rw [ALL.out.1] at C1
    go_wp2_with fail
    refine C1.mono ?_
    clear C1
    rintro e w5 ⟨rfl, H6⟩
    have H6 : Heap w w5 [areP a (swAr (swNd old) ([old, old, old].set j x) 0)] := H6
    have C1 := SwapWay_h H6 0 rfl ((sw_ok _ HND.out _ _).ok (by omega)) 1099511627777 j old y
    rw [ALL.out.2.1] at C1
    go_wp2_with fail
    refine C1.mono ?_
    clear C1
    rintro e w6 ⟨rfl, H7⟩
    have H7 : Heap w w6 [areP a (swAr (swNd old) ([old, old, old].set j x) 0)] := H7
    have C1 := Look_h H7 0 rfl ((sw_ok _ HND.out _ _).ok (by omega)) (sw_ok _ HND.out _ _).nds 1099511627777
    rw [sw_look] at C1
    go_wp2_with fail
    refine C1.mono ?_
    clear C1
    rintro e w7 ⟨vp, vk, vn, rfl, H8⟩
    have H8 : Heap w w7 (areP a (swAr (swNd old) ([old, old, old].set j x) 0) :: ndL (swNd old) vp vk vn) := H8
    obtain ⟨b1, d1, rfl, _, _⟩ := (H8.row 1 rfl).form
    obtain ⟨b2, d2, rfl, _, _⟩ := (H8.row 2 rfl).form
    obtain ⟨b3, d3, rfl, hd3, _⟩ := (H8.row 3 rfl).form
    have hf1 := field_ways true false b1 b2 b3 0 2 3 d1 d2 d3 w7
    have hf2 := field_waysways b2 b3 2 3 d2 d3 w7
    have E1 := Lib.hid (Way_h H8 0 rfl ((sw_ok _ HND.out _ _).ok (by omega)) 1099511627777 j)
    unfold ndV swNd
    have HH8 := Lib.hid H8
    clear H8 H7 H6 H5 H3 H2
    go_wp2_with fail
    have E2 := E1.out
    rw [ALL.out.2.2.1] at E2
    refine E2.mono ?_
    clear E2
    rintro e w8 ⟨rfl, H9⟩
    have H9 : Heap w w8 (areP a (swAr (swNd old) ([old, old, old].set j x) 0) :: ndL (swNd old) (.slice b1 0 d1) (.slice b2 2 d2) (.slice b3 3 d3)) := H9
    have E2 := Lib.hid (Way_h H9 0 rfl ((sw_ok _ HND.out _ _).ok (by omega)) 1099511627777 j1)
    clear hf1 hf2 H9
    have hj1 := HJ1.out
    go_wp2_with fail
    have E3 := E2.out
    rw [ALL.out.2.2.2.1] at E3
    refine E3.mono ?_
    clear E3
    rintro e w9 ⟨rfl, H10⟩
    have R4 : QRow w9 27 1 (.slice b3 3 d3) 3 [.int .i64 old, .int .i64 old, .int .i64 old] := H10.row 3 rfl
    obtain ⟨g3, o3, cur3, rfl, _, _, hat⟩ := R4.at (by omega)
    have ck : w9.cell? ⟨g3, o3 + j, none⟩ = some (.int .i64 old) := hat j _ (by rcases (by omega : j = 0 ∨ j = 1 ∨ j = 2) with rfl | rfl | rfl <;> rfl)
    have H10 : Heap w w9 (areP a (swAr (swNd old) ([old, old, old].set j x) 0) :: ndL (swNd old) (.slice b1 0 d1) (.slice b2 2 d2) (.slice (some ⟨g3, o3, none⟩) 3 d3)) := H10
    have hjl : (j : Int) < 3 := by omega
    clear R4 hat hj1
    by_cases hz : old = 0
    · have hb : (old != 0) = false := by simp [hz]
      have H11 : Heap w w9 (areP a (swAr (swNd old) ([old, old, old].set j x) old) :: ndL (swNd old) (.slice b1 0 d1) (.slice b2 2 d2) (.slice (some ⟨g3, o3, none⟩) 3 d3)) := by
        have e : swAr (swNd old) ([old, old, old].set j x) old = swAr (swNd old) ([old, old, old].set j x) 0 := by
          conv => lhs; arg 3; rw [hz]
        rw [e]; exact H10
      clear hz H10
      have C1 := SwapInfo_h H11 0 rfl ((sw_ok _ HND.out _ _).ok (by omega)) 1099511627777 old x
      rw [ALL.out.2.2.2.2.1] at C1
      have CC := Lib.hid C1
      clear C1
      go_wp2_with fail
      refine CC.out.mono ?_
      rintro e v1 ⟨rfl, G1⟩
      have G1 : Heap w v1 (areP a (swAr (swNd old) ([old, old, old].set j x) x) :: ndL (swNd old) (.slice b1 0 d1) (.slice b2 2 d2) (.slice (some ⟨g3, o3, none⟩) 3 d3)) := G1
      have C1 := SwapInfo_h G1 0 rfl ((sw_ok _ HND.out _ _).ok (by omega)) 1099511627777 old y
      rw [ALL.out.2.2.2.2.2] at C1
      have CC := Lib.hid C1
      clear C1
      go_wp2_with fail
      refine CC.out.mono ?_
      rintro e v2 ⟨rfl, G2⟩
      have G2 : Heap w v2 (areP a (swAr (swNd old) ([old, old, old].set j x) x) :: ndL (swNd old) (.slice b1 0 d1) (.slice b2 2 d2) (.slice (some ⟨g3, o3, none⟩) 3 d3)) := G2
      have C1 := Info_h G2 0 rfl ((sw_ok _ HND.out _ _).ok (by omega)) 1099511627777
      rw [sw_info] at C1
      have CC := Lib.hid C1
      clear C1
      go_wp2_with fail
      refine CC.out.mono ?_
      rintro e v3 ⟨rfl, G3⟩
      have G3 : Heap w v3 (areP a (swAr (swNd old) ([old, old, old].set j x) x) :: ndL (swNd old) (.slice b1 0 d1) (.slice b2 2 d2) (.slice (some ⟨g3, o3, none⟩) 3 d3)) := G3
      have C1 : Calls Try.prog 22 #[.pointer (some ⟨a, 0, none⟩)] v3 fun e w' => e = .returned (.int .i64 0) ∧ w' = v3 := Faults_h G3 0 rfl
      have CC := Lib.hid C1
      clear C1
      go_wp2_with fail
      refine CC.out.mono ?_
      rintro e v4 ⟨rfl, hw⟩
      have hw := hw.symm
      subst hw
      go_wp2_with fail
      go_ret
      exact ⟨rfl, G3.below⟩
    · have hb : (old != 0) = true := by simp [hz]
      have C0 := SwapInfo_h H10 0 rfl ((sw_ok _ HND.out _ _).ok (by omega)) 1099511627777 0 old
      rw [sw_swapInfo, if_pos rfl] at C0
      have CC0 := Lib.hid C0
      clear hz C0 H10
      go_wp2_with fail
      refine CC0.out.mono ?_
      rintro e w10 ⟨rfl, H11⟩
      have H11 : Heap w w10 (areP a (swAr (swNd old) ([old, old, old].set j x) old) :: ndL (swNd old) (.slice b1 0 d1) (.slice b2 2 d2) (.slice (some ⟨g3, o3, none⟩) 3 d3)) := H11
      have C1 := SwapInfo_h H11 0 rfl ((sw_ok _ HND.out _ _).ok (by omega)) 1099511627777 old x
      rw [ALL.out.2.2.2.2.1] at C1
      have CC := Lib.hid C1
      clear C1
      go_wp2_with fail
      refine CC.out.mono ?_
      rintro e v1 ⟨rfl, G1⟩
      have G1 : Heap w v1 (areP a (swAr (swNd old) ([old, old, old].set j x) x) :: ndL (swNd old) (.slice b1 0 d1) (.slice b2 2 d2) (.slice (some ⟨g3, o3, none⟩) 3 d3)) := G1
      have C1 := SwapInfo_h G1 0 rfl ((sw_ok _ HND.out _ _).ok (by omega)) 1099511627777 old y
      rw [ALL.out.2.2.2.2.2] at C1
      have CC := Lib.hid C1
      clear C1
      go_wp2_with fail
      refine CC.out.mono ?_
      rintro e v2 ⟨rfl, G2⟩
      have G2 : Heap w v2 (areP a (swAr (swNd old) ([old, old, old].set j x) x) :: ndL (swNd old) (.slice b1 0 d1) (.slice b2 2 d2) (.slice (some ⟨g3, o3, none⟩) 3 d3)) := G2
      have C1 := Info_h G2 0 rfl ((sw_ok _ HND.out _ _).ok (by omega)) 1099511627777
      rw [sw_info] at C1
      have CC := Lib.hid C1
      clear C1
      go_wp2_with fail
      refine CC.out.mono ?_
      rintro e v3 ⟨rfl, G3⟩
      have G3 : Heap w v3 (areP a (swAr (swNd old) ([old, old, old].set j x) x) :: ndL (swNd old) (.slice b1 0 d1) (.slice b2 2 d2) (.slice (some ⟨g3, o3, none⟩) 3 d3)) := G3
      have C1 : Calls Try.prog 22 #[.pointer (some ⟨a, 0, none⟩)] v3 fun e w' => e = .returned (.int .i64 0) ∧ w' = v3 := Faults_h G3 0 rfl
      have CC := Lib.hid C1
      clear C1
      go_wp2_with fail
      refine CC.out.mono ?_
      rintro e v4 ⟨rfl, hw⟩
      have hw := hw.symm
      subst hw
      go_wp2_with fail
      go_ret
      exact ⟨rfl, G3.below⟩
end Go.Proofs.Ytolkpmbmgiplcaa
