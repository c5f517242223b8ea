/- ArenaFaults: the law's walk. No condition but that the numbers are of their kinds, and that what is handed in can be read. -/
import Derived.Test.YtolkpmbmgiplcaaFltA
import Derived.Test.YtolkpmbmgiplcaaWAr2
import Derived.Test.YtolkpmbmgiplcaaOrd
namespace Go.Proofs.Ytolkpmbmgiplcaa
open Go Go.RowKit
set_option linter.unusedVariables false
set_option linter.unusedSimpArgs false
def ndsTo (xs : List SmV) (k : Nat) : List Nd := (xs.take k).map (fun x => x.s.nd)
def toldTo (k : Nat) : List Int := (List.range k).map (fun j => refOf (j : Nat) 1)
theorem ndsTo_succ (xs : List SmV) (k : Nat) (x : SmV) (h : xs[k]? = some x) : ndsTo xs (k + 1) = ndsTo xs k ++ [x.s.nd] := by
  unfold ndsTo
  rw [List.take_add_one, h]; simp
theorem ndsTo_len (xs : List SmV) (k : Nat) (h : k ≤ xs.length) : (ndsTo xs k).length = k := by
  unfold ndsTo
  simp; omega
theorem toldTo_succ (k : Nat) : toldTo (k + 1) = toldTo k ++ [refOf (k : Nat) 1] := by
  unfold toldTo
  rw [List.range_succ]; simp
theorem toldTo_get (k j : Nat) (h : j < k) : (toldTo k)[j]? = some (refOf (j : Nat) 1) := by
  unfold toldTo
  simp [h]
theorem sm_few (s : Sm) : s.nd.few := by
  have h1 := s.keys_len s.keys.length s.ways.length (Nat.le_refl _)
  have h2 := s.ways_len s.keys.length s.ways.length (Nat.le_refl _)
  exact ⟨by unfold Sm.nd; omega, by unfold Sm.nd; omega, by unfold Sm.nd; omega⟩
theorem ndsTo_few (xs : List SmV) (k : Nat) : ∀ nd ∈ ndsTo xs k, nd.few := by
  intro nd h
  simp only [ndsTo, List.mem_map] at h
  obtain ⟨x, _, rfl⟩ := h
  exact sm_few x.s
theorem ndsTo_get (xs : List SmV) (k : Nat) (x : SmV) (h : xs[k]? = some x) (hl : k < (ndsTo xs xs.length).length) : (ndsTo xs xs.length)[k] = x.s.nd := by
  have : (ndsTo xs xs.length)[k]? = some x.s.nd := by simp [ndsTo, h]
  rw [List.getElem?_eq_getElem hl] at this
  exact Option.some.inj this
set_option maxHeartbeats 8000000 in
theorem ArenaFaults_walk (v : Value) (xs : List SmV) (r : Int) (hr : -9223372036854775808 ≤ r ∧ r ≤ 9223372036854775807) (i : Int) (hi : -9223372036854775808 ≤ i ∧ i ≤ 9223372036854775807) (old : Int) (ho : -9223372036854775808 ≤ old ∧ old ≤ 9223372036854775807) (now : Int) (hn : -9223372036854775808 ≤ now ∧ now ≤ 9223372036854775807) (w : World)
    (hv : RdV w v xs.length 4 (xs.flatMap smvC)) (hok : ∀ x ∈ xs, x.ok w) :
    Calls Try.prog 7 #[v, .int .i64 r, .int .i64 i, .int .i64 old, .int .i64 now] w fun e w' => e = .returned (.bool true) ∧ Below w.heap.size w w' := by
  clear hr hi ho hn
  have HV := Lib.hid hv
  have HOK := Lib.hid hok
  have hmax := hv.short
  unfold maxLen at hmax
  obtain ⟨av, cv, rfl⟩ := hv.len
  clear hv hok
  by_cases h10 : 10 < xs.length
  · go_enter Try.func7, Try.ntmps7
    go_wp2_with fail
    refine (Awake_calls w _ (Fr.refl _ _)).mono ?_
    rintro e w1 ⟨rfl, F1⟩
    go_wp2_with fail
    go_ret
    exact ⟨rfl, F1.below (Nat.le_refl _) (fun _ x => x.elim)⟩
  · obtain ⟨i3, hi3, hz3, hs3, hb3⟩ := info_parts info_ref
    have I3 := Lib.hid (And.intro hi3 (And.intro hz3 (And.intro hs3 hb3)))
    clear hi3 hz3 hs3 hb3
    go_enter Try.func7, Try.ntmps7
    go_wp2_with fail
    refine (Awake_calls w _ (Fr.refl _ _)).mono ?_
    rintro e w1 ⟨rfl, F1⟩
    have H1 : Heap w w1 [] := (Heap.start w).go F1
    clear F1
    go_wp2_with fail
    refine (New_h H1 20).mono ?_
    rintro e w2 ⟨rfl, H2⟩
    generalize w1.heap.size = a at *
    have H3 : Heap w w2 [areP a (flAr (ndsTo xs 0) 0), rowP 27 1 nilS 0 (intC (toldTo 0))] := Heap.pushNil H2 27 1
    have HH := Lib.hid H3
    clear H1 H2 H3
    go_wp2_with fail
    go_loopw [12, 30] (fun t i wr => ∃ (k : Nat), k ≤ xs.length ∧ i = .int .i64 k ∧ Hid (Heap w wr [areP a (flAr (ndsTo xs k) 0), rowP 27 1 t k (intC (toldTo k))])) (fun _ i _ => xs.length - (intOf i).toNat)
    case atStart => exact ⟨0, Nat.zero_le _, rfl, HH⟩
    case round =>
      clear HH
      obtain ⟨k, hk, rfl, HH⟩ := hrel
      obtain ⟨pt, ct, rfl, _, _⟩ := (HH.out.row 1 rfl).form
      by_cases hlt : k < xs.length
      · obtain ⟨x, hx⟩ : ∃ x, xs[k]? = some x := ⟨_, List.getElem?_eq_getElem hlt⟩
        obtain ⟨ka, kb, ra, rb⟩ := HOK.out x (List.mem_of_getElem? hx)
        have R := HV.out.fr HH.out.fr (fun _ _ _ (x : nob _) => x)
        obtain ⟨b1, rfl, hc1, hat1⟩ := R.at (by omega)
        have x0 := hat1 _ _ ((flat4_get xs k 0 x hx (by omega)).trans rfl)
        have x1 := hat1 _ _ ((flat4_get xs k 1 x hx (by omega)).trans rfl)
        have x2 := hat1 _ _ ((flat4_get xs k 2 x hx (by omega)).trans rfl)
        have x3 := hat1 _ _ ((flat4_get xs k 3 x hx (by omega)).trans rfl)
        rw [Nat.add_zero] at x0
        rw [add_field] at x1 x2 x3
        obtain ⟨s, va, vb⟩ := x
        dsimp only at ka kb ra rb x0 x1 x2 x3
        obtain ⟨a1, c1, rfl⟩ := ka.len
        obtain ⟨a2, c2, rfl⟩ := kb.len
        have KK := Lib.hid (And.intro ka (And.intro kb (And.intro ra rb)))
        have HX := Lib.hid hx
        clear hat1 R ka kb ra rb hx
        have H1 := HH.out.alloc 44 #[.bool s.inner, .bool s.tagged, .slice a1 s.keys.length c1, .slice a2 s.ways.length c2]
        have H1' := Lib.hid H1
        clear H1
        go_wp2_with fail
        refine (Node_h H1'.out s _ _ KK.out.1 KK.out.2.1 KK.out.2.2.1 KK.out.2.2.2).mono ?_
        rintro e w5 ⟨vp, vk, vn, rfl, H2⟩
        have hnl := ndsTo_len xs k hk
        have C1 := Alloc_h H2 0 rfl ((fl_ok (ndsTo xs k) 0 (by omega) (by omega) (ndsTo_few xs k)).more (by omega)) s.nd (sm_few s) vp vk vn (fun z q hz => ⟨(hz.row 3 rfl).rdv, (hz.row 4 rfl).rdv, (hz.row 5 rfl).rdv⟩)
        rw [fl_new _ _ (by omega), hnl, ← ndsTo_succ xs k _ HX.out] at C1
        have CC := Lib.hid C1
        clear C1 H2 hnl H1' HH x0 x1 x2 x3
        go_wp2_with fail
        refine CC.out.mono ?_
        rintro e w6 ⟨rfl, H3⟩
        clear CC
        have H4 : Heap w w6 [areP a (flAr (ndsTo xs (k + 1)) 0), rowP 27 1 (.slice pt k ct) k (intC (toldTo k))] := Heap.first (l := [_, _]) H3
        have Q2 := Lib.hid (H4.row 1 rfl)
        have HH := Lib.hid H4
        clear H3 H4
        have hlm : k + 1 ≤ maxLen := by unfold maxLen; omega
        have hlb : (k + 1) * 8 ≤ 140737488355328 := by omega
        have HL := Lib.hid (And.intro hlm hlb)
        clear hlm hlb
        generalize hrf : refOf (k : Int) 1 = rf at *
        have HRF := Lib.hid hrf
        clear hrf
        go_wp2_with (at_builtin; refine wpList_append_typed _ rfl _ _ _ (by rfl) 27 i3 _ 1 8 Try.underlying26 I3.out.1 I3.out.2.1 I3.out.2.2.1 I3.out.2.2.2 rfl (by decide) (.slice pt k ct) k _ (by rfl) (Q2.out.fr (F := nob) (by repeat (first | exact Fr.refl _ _ | apply Fr.drew | apply Fr.alloc)) (fun _ _ _ x => x)) _ 1 [.int .i64 rf] (by rfl) (RdV.block (cs := #[.int .i64 rf]) (t := 27) (by repeat (first | exact Blk.new' rfl _ _ | apply Blk.drew | apply Blk.alloc)) rfl (by decide)) (by simp [Value.oneCell']) HL.out.1 HL.out.2 ?_)
        intro a' c' w' q' grow hat
        rw [← intC_app, ← HRF.out, ← toldTo_succ] at q'
        have HG := HH.out.growRow 1 rfl (Fr.alloc (Fr.refl nob w6) (.cells #[.int .i64 rf] 27)) q' grow (fun g hg => (hat g hg).imp_left (fun h => h.imp_right (fun h => by simpa using h)))
        have HGG : Hid (Heap w w' [areP a (flAr (ndsTo xs (k + 1)) 0), rowP 27 1 (.slice a' (k + 1) c') (k + 1) (intC (toldTo (k + 1)))]) := Lib.hid HG
        clear q' grow hat HG
        go_wp2_with fail
        exact ⟨⟨k + 1, by omega, by go_num, HGG⟩, by simp [intOf] <;> omega⟩
      · go_wp2_with fail
        have hke : k = xs.length := by omega
        subst hke
        clear hlt hk
        have hnl := ndsTo_len xs xs.length (Nat.le_refl _)
        have HFEW := ndsTo_few xs xs.length
        have hx10 : xs.length ≤ 10 := by omega
        rename World => w8
        go_loopw [49] (fun i w0 => ∃ (j : Nat), j ≤ xs.length ∧ i = .int .i64 j ∧ w0 = w8 ∧ Hid (∀ m : Nat, m < j → refOf (m : Nat) 1 ≠ r)) (fun i _ => xs.length - (intOf i).toNat)
        case atStart => exact ⟨0, Nat.zero_le _, rfl, rfl, Lib.hid (fun m hm => by omega)⟩
        case round =>
          obtain ⟨j, hj, rfl, hw, HN⟩ := hrel
          have hw := hw.symm
          subst hw
          by_cases hlt : j < xs.length
          · obtain ⟨g, off, cur, e, hcur, hcap, hat⟩ := (HH.out.row 1 rfl).at (by omega)
            have x1 : w8.cell? ⟨g, off + j, none⟩ = some (.int .i64 (refOf (j : Nat) 1)) := hat _ _ (intC_get' _ _ _ (toldTo_get _ _ hlt))
            subst e
            clear hat hcur
            by_cases hq : refOf (j : Nat) 1 = r
            · have hqb : (refOf (j : Nat) 1 == r) = true := by simpa using hq
              clear hq
              go_wp2_with fail
              go_ret
              exact ⟨rfl, HH.out.below⟩
            · have hqb : (refOf (j : Nat) 1 == r) = false := by simpa using hq
              have HQ := Lib.hid hq
              clear hq
              go_wp2_with fail
              refine ⟨⟨j + 1, by omega, by go_num, by trivial, Lib.hid (fun m hm => ?_)⟩, by simp [intOf]; omega⟩
              by_cases hmj : m = j
              · subst hmj; exact HQ.out
              · exact HN.out m (by omega)
          · have HE : Hid (∀ f : Int, arAt (flAr (ndsTo xs xs.length) f) r = none) := Lib.hid (fun f => fl_none _ f r (fun m hm => HN.out m (by omega)))
            have OK : Hid (∀ f : Int, 0 ≤ f ∧ f ≤ 20 → OkN (flAr (ndsTo xs xs.length) f) 20) := Lib.hid (fun f hf => fl_ok _ f (by omega) hf HFEW)
            have HNL := Lib.hid hnl
            clear hnl HFEW HN
            generalize hnn : ndsTo xs xs.length = nds at *
            have HNN := Lib.hid hnn
            clear hnn
            have C1 := Free_h HH.out 0 rfl ((OK.out 0 (by omega)).ok (by omega)) (by simp [flAr]) r
            rw [fl_free _ _ _ (HE.out 0)] at C1
            have CC := Lib.hid C1
            clear C1
            go_wp2_with fail
            refine CC.out.mono ?_
            rintro e y1 ⟨rfl, HX⟩
            clear HH CC
            have HH : Hid (Heap w y1 [areP a (flAr nds 1), rowP 27 1 (.slice pt xs.length ct) xs.length (intC (toldTo xs.length))]) := Lib.hid HX
            clear HX
            have C1 := Look_h HH.out 0 rfl ((OK.out 1 (by omega)).ok (by omega)) (OK.out 1 (by omega)).nds r
            rw [fl_look _ _ _ (HE.out 1)] at C1
            have CC := Lib.hid C1
            clear C1
            go_wp2_with fail
            refine CC.out.mono ?_
            rintro e y2 ⟨vp, vk, vn, rfl, HX⟩
            clear HH CC
            have HXX := Lib.hid HX
            clear HX
            go_wp2_with fail
            refine (SameN_calls noNd vp vk vn nilS nilS nilS _ ⟨(HXX.out.row 2 rfl).rdv, (HXX.out.row 3 rfl).rdv, (HXX.out.row 4 rfl).rdv⟩ ⟨RdV_nil _ _, RdV_nil _ _, RdV_nil _ _⟩).mono ?_
            rintro e y3 ⟨rfl, F3⟩
            have HH : Hid (Heap w y3 [areP a (flAr nds 2), rowP 27 1 (.slice pt xs.length ct) xs.length (intC (toldTo xs.length))]) := Lib.hid (Heap.first (l := [_, _]) (HXX.out.go F3))
            clear HXX F3
            have C1 := Way_h HH.out 0 rfl ((OK.out 2 (by omega)).ok (by omega)) r i
            rw [fl_way _ _ _ (HE.out 2)] at C1
            have CC := Lib.hid C1
            clear C1
            go_wp2_with fail
            refine CC.out.mono ?_
            rintro e y4 ⟨rfl, HX⟩
            clear HH CC
            have HH : Hid (Heap w y4 [areP a (flAr nds 3), rowP 27 1 (.slice pt xs.length ct) xs.length (intC (toldTo xs.length))]) := Lib.hid HX
            clear HX
            have C1 := SwapWay_h HH.out 0 rfl ((OK.out 3 (by omega)).ok (by omega)) r i old now
            rw [fl_swapWay _ _ _ (HE.out 3)] at C1
            have CC := Lib.hid C1
            clear C1
            go_wp2_with fail
            refine CC.out.mono ?_
            rintro e y5 ⟨rfl, HX⟩
            clear HH CC
            have HH : Hid (Heap w y5 [areP a (flAr nds 4), rowP 27 1 (.slice pt xs.length ct) xs.length (intC (toldTo xs.length))]) := Lib.hid HX
            clear HX
            have C1 := Info_h HH.out 0 rfl ((OK.out 4 (by omega)).ok (by omega)) r
            rw [fl_info _ _ _ (HE.out 4)] at C1
            have CC := Lib.hid C1
            clear C1
            go_wp2_with fail
            refine CC.out.mono ?_
            rintro e y6 ⟨rfl, HX⟩
            clear HH CC
            have HH : Hid (Heap w y6 [areP a (flAr nds 5), rowP 27 1 (.slice pt xs.length ct) xs.length (intC (toldTo xs.length))]) := Lib.hid HX
            clear HX
            have C1 := SwapInfo_h HH.out 0 rfl ((OK.out 5 (by omega)).ok (by omega)) r old now
            rw [fl_swapInfo _ _ _ (HE.out 5)] at C1
            have CC := Lib.hid C1
            clear C1
            go_wp2_with fail
            refine CC.out.mono ?_
            rintro e y7 ⟨rfl, HX⟩
            clear HH CC
            have HH : Hid (Heap w y7 [areP a (flAr nds 6), rowP 27 1 (.slice pt xs.length ct) xs.length (intC (toldTo xs.length))]) := Lib.hid HX
            clear HX
            have C1 := Mark_h HH.out 0 rfl ((OK.out 6 (by omega)).ok (by omega)) r
            rw [fl_mark _ _ _ (HE.out 6)] at C1
            have CC := Lib.hid C1
            clear C1
            go_wp2_with fail
            refine CC.out.mono ?_
            rintro e y8 ⟨rfl, HX⟩
            clear HH CC
            have HH : Hid (Heap w y8 [areP a (flAr nds 7), rowP 27 1 (.slice pt xs.length ct) xs.length (intC (toldTo xs.length))]) := Lib.hid HX
            clear HX
            have C1 := SetMark_h HH.out 0 rfl ((OK.out 7 (by omega)).ok (by omega)) r
            rw [fl_setMark _ _ _ (HE.out 7)] at C1
            have CC := Lib.hid C1
            clear C1
            go_wp2_with fail
            refine CC.out.mono ?_
            rintro e y9 ⟨rfl, HX⟩
            clear HH CC
            have HH : Hid (Heap w y9 [areP a (flAr nds 8), rowP 27 1 (.slice pt xs.length ct) xs.length (intC (toldTo xs.length))]) := Lib.hid HX
            clear HX
            go_wp2_with fail
            go_loopw [106] (fun i wr => ∃ (j : Nat), j ≤ xs.length ∧ i = .int .i64 j ∧ Hid (Heap w wr [areP a (flAr nds 8), rowP 27 1 (.slice pt xs.length ct) xs.length (intC (toldTo xs.length))])) (fun i _ => xs.length - (intOf i).toNat)
            case atStart => exact ⟨0, Nat.zero_le _, rfl, HH⟩
            case round =>
              clear HH
              obtain ⟨j, hj, rfl, HH⟩ := hrel
              by_cases hlt : j < xs.length
              · obtain ⟨x, hx⟩ : ∃ x, xs[j]? = some x := ⟨_, List.getElem?_eq_getElem hlt⟩
                obtain ⟨ka, kb, ra, rb⟩ := HOK.out x (List.mem_of_getElem? hx)
                obtain ⟨b1, eb, hc1, _⟩ := HV.out.at (by omega)
                subst eb
                have XC : Hid (∀ z, Fr nob w z → z.cell? (b1.add (j * 4)) = some (.bool x.s.inner) ∧ z.cell? ⟨(b1.add (j * 4)).block, (b1.add (j * 4)).off + 1, none⟩ = some (.bool x.s.tagged) ∧ z.cell? ⟨(b1.add (j * 4)).block, (b1.add (j * 4)).off + 2, none⟩ = some x.va ∧ z.cell? ⟨(b1.add (j * 4)).block, (b1.add (j * 4)).off + 3, none⟩ = some x.vb) := Lib.hid (fun z hz => by
                  obtain ⟨b2, eb, _, hat1⟩ := (HV.out.fr hz (fun _ _ _ (x : nob _) => x)).at (by omega)
                  obtain rfl := Option.some.inj eb
                  have x0 := hat1 _ _ ((flat4_get xs j 0 x hx (by omega)).trans rfl)
                  have x1 := hat1 _ _ ((flat4_get xs j 1 x hx (by omega)).trans rfl)
                  have x2 := hat1 _ _ ((flat4_get xs j 2 x hx (by omega)).trans rfl)
                  have x3 := hat1 _ _ ((flat4_get xs j 3 x hx (by omega)).trans rfl)
                  rw [Nat.add_zero] at x0
                  rw [add_field] at x1 x2 x3
                  exact ⟨x0, x1, x2, x3⟩)
                obtain ⟨s, va, vb⟩ := x
                dsimp only at ka kb ra rb XC
                obtain ⟨a1, c1, rfl⟩ := ka.len
                obtain ⟨a2, c2, rfl⟩ := kb.len
                have KK := Lib.hid (And.intro ka (And.intro kb (And.intro ra rb)))
                obtain ⟨g, off, cur, e, hcur, hcap, hat⟩ := (HH.out.row 1 rfl).at (by omega)
                subst e
                have y1 : wr.cell? ⟨g, off + j, none⟩ = some (.int .i64 (refOf (j : Nat) 1)) := hat _ _ (intC_get' _ _ _ (toldTo_get _ _ hlt))
                have hnj : j < nds.length := by rw [HNL.out]; exact hlt
                have hn20 : nds.length ≤ 20 := by rw [HNL.out]; omega
                have G1 := fl_markAt nds 8 j hnj hn20
                have G2 := fl_infoAt nds 8 j hnj hn20
                have G3 := fl_lookAt nds 8 j hnj hn20
                have G4 : nds[j] = s.nd := by
                  have := ndsTo_get xs j _ hx (by rw [HNN.out]; exact hnj)
                  simpa [HNN.out] using this
                rw [G4] at G3
                have GG := Lib.hid (And.intro G1 (And.intro G2 G3))
                clear ka kb ra rb hx hat hcur G1 G2 G3 G4 hnj hn20
                generalize hrf : refOf (j : Int) 1 = rf at *
                have HRF := Lib.hid hrf
                clear hrf
                go_upto_region 26 with fail
                have O8 := Lib.hid ((OK.out 8 (by omega)).ok (by omega))
                have N8 := Lib.hid (OK.out 8 (by omega)).nds
                have MK : Hid (∀ z, Heap w z [areP a (flAr nds 8), rowP 27 1 (.slice (some ⟨g, off, none⟩) xs.length ct) xs.length (intC (toldTo xs.length))] → Calls Try.prog 26 #[.pointer (some ⟨a, 0, none⟩), .int .i64 rf] z fun e z' => e = .returned (.bool false) ∧ Heap w z' [areP a (flAr nds 8), rowP 27 1 (.slice (some ⟨g, off, none⟩) xs.length ct) xs.length (intC (toldTo xs.length))]) := Lib.hid (fun z hz => by
                  have C1 := Mark_h hz 0 rfl O8.out rf
                  rw [GG.out.1] at C1
                  exact C1)
                have IK : Hid (∀ z, Heap w z [areP a (flAr nds 8), rowP 27 1 (.slice (some ⟨g, off, none⟩) xs.length ct) xs.length (intC (toldTo xs.length))] → Calls Try.prog 25 #[.pointer (some ⟨a, 0, none⟩), .int .i64 rf] z fun e z' => e = .returned (.int .i64 0) ∧ Heap w z' [areP a (flAr nds 8), rowP 27 1 (.slice (some ⟨g, off, none⟩) xs.length ct) xs.length (intC (toldTo xs.length))]) := Lib.hid (fun z hz => by
                  have C1 := Info_h hz 0 rfl O8.out rf
                  rw [GG.out.2.1] at C1
                  exact C1)
                have LK : Hid (∀ z, Heap w z [areP a (flAr nds 8), rowP 27 1 (.slice (some ⟨g, off, none⟩) xs.length ct) xs.length (intC (toldTo xs.length))] → Calls Try.prog 18 #[.pointer (some ⟨a, 0, none⟩), .int .i64 rf] z fun e z' => ∃ vp vk vn, e = .returned (ndV s.nd vp vk vn) ∧ Heap w z' ([areP a (flAr nds 8), rowP 27 1 (.slice (some ⟨g, off, none⟩) xs.length ct) xs.length (intC (toldTo xs.length))] ++ ndL s.nd vp vk vn)) := Lib.hid (fun z hz => by
                  have C1 := Look_h hz 0 rfl O8.out N8.out rf
                  rw [GG.out.2.2] at C1
                  exact C1)
                obtain ⟨x0, x1, x2, x3⟩ := XC.out wr HH.out.fr
                go_cut [131] (fun s131 wx => s131 = .bool false ∧ Heap w wx [areP a (flAr nds 8), rowP 27 1 (.slice (some ⟨g, off, none⟩) xs.length ct) xs.length (intC (toldTo xs.length))])
                case first =>
                  refine wp_region_noPanic ?_
                  refine AnyK.start (ks := []) (S := fun w' => w'.cell? (b1.add (j * 4)) = some (.bool s.inner) ∧ w'.cell? ⟨(b1.add (j * 4)).block, (b1.add (j * 4)).off + 1, none⟩ = some (.bool s.tagged) ∧ w'.cell? ⟨(b1.add (j * 4)).block, (b1.add (j * 4)).off + 2, none⟩ = some (.slice a1 s.keys.length c1) ∧ w'.cell? ⟨(b1.add (j * 4)).block, (b1.add (j * 4)).off + 3, none⟩ = some (.slice a2 s.ways.length c2)) (by kernel_rfl) (by go_keep) (fun hHeld => ?_)
                  have q0 := XC.out wr.drew HH.out.drew.fr
                  have H0 := HH.out.drew
                  refine AnyK.take (i := 0) (v := ?_) rfl (by kernel_rfl) (by kernel_rfl) (by kernel_rfl) (by kernel_rfl) (fun _ _ _ h => h) (Or.inl ⟨by rfl, ?_⟩) (by exact q0) ?_
                  rotate_left
                  focus
                    intro w9 hSw
                    try dsimp only at hSw
                    go_simp
                    try with_reducible rfl
                  try simp only [Act.put, List.setIfInBounds_toArray, List.set_cons_zero, List.set_cons_succ]
                  refine AnyK.take (i := 1) (v := ?_) rfl (by kernel_rfl) (by kernel_rfl) (by kernel_rfl) (by kernel_rfl) (fun _ _ _ h => h) (Or.inl ⟨by rfl, ?_⟩) (by exact q0) ?_
                  rotate_left
                  focus
                    intro w9 hSw
                    try dsimp only at hSw
                    go_simp
                    try with_reducible rfl
                  try simp only [Act.put, List.setIfInBounds_toArray, List.set_cons_zero, List.set_cons_succ]
                  refine AnyK.one (i := 2) (by kernel_rfl) rfl (fun K hK => ?_)
                  go_simp
                  go_at_call 26
                  refine (MK.out _ H0).mono ?_
                  rintro e z1 ⟨rfl, H1⟩
                  have q1 := XC.out z1 H1.fr
                  refine hK.out _ _ (fun _ => q1) ?_
                  clear hK K
                  try simp only [Act.put, List.setIfInBounds_toArray, List.set_cons_zero, List.set_cons_succ]
                  refine AnyK.one (i := 3) (by kernel_rfl) rfl (fun K hK => ?_)
                  go_simp
                  refine hK.out _ _ (fun _ => q1) ?_
                  clear hK K
                  try simp only [Act.put, List.setIfInBounds_toArray, List.set_cons_zero, List.set_cons_succ]
                  refine AnyK.take (i := 4) (v := ?_) rfl (by kernel_rfl) (by kernel_rfl) (by kernel_rfl) (by kernel_rfl) (fun _ _ _ h => h) (Or.inl ⟨by rfl, ?_⟩) (by exact q1) ?_
                  rotate_left
                  focus
                    intro w9 hSw
                    try dsimp only at hSw
                    go_simp
                    try with_reducible rfl
                  try simp only [Act.put, List.setIfInBounds_toArray, List.set_cons_zero, List.set_cons_succ]
                  refine AnyK.take (i := 5) (v := ?_) rfl (by kernel_rfl) (by kernel_rfl) (by kernel_rfl) (by kernel_rfl) (fun _ _ _ h => h) (Or.inl ⟨by rfl, ?_⟩) (by exact q1) ?_
                  rotate_left
                  focus
                    intro w9 hSw
                    try dsimp only at hSw
                    go_simp
                    try with_reducible rfl
                  try simp only [Act.put, List.setIfInBounds_toArray, List.set_cons_zero, List.set_cons_succ]
                  refine AnyK.one (i := 6) (by kernel_rfl) rfl (fun K hK => ?_)
                  go_simp
                  go_at_call 25
                  refine (IK.out _ H1).mono ?_
                  rintro e z2 ⟨rfl, H2⟩
                  have q2 := XC.out z2 H2.fr
                  refine hK.out _ _ (fun _ => q2) ?_
                  clear hK K
                  try simp only [Act.put, List.setIfInBounds_toArray, List.set_cons_zero, List.set_cons_succ]
                  refine AnyK.one (i := 7) (by kernel_rfl) rfl (fun K hK => ?_)
                  go_simp
                  refine hK.out _ _ (fun _ => q2) ?_
                  clear hK K
                  try simp only [Act.put, List.setIfInBounds_toArray, List.set_cons_zero, List.set_cons_succ]
                  refine AnyK.one (i := 8) (by kernel_rfl) rfl (fun K hK => ?_)
                  go_simp
                  refine hK.out _ _ (fun _ => q2) ?_
                  clear hK K
                  try simp only [Act.put, List.setIfInBounds_toArray, List.set_cons_zero, List.set_cons_succ]
                  refine AnyK.one (i := 9) (by kernel_rfl) rfl (fun K hK => ?_)
                  go_simp
                  refine hK.out _ _ (fun _ => q2) ?_
                  clear hK K
                  try simp only [Act.put, List.setIfInBounds_toArray, List.set_cons_zero, List.set_cons_succ]
                  refine AnyK.take (i := 10) (v := ?_) rfl (by kernel_rfl) (by kernel_rfl) (by kernel_rfl) (by kernel_rfl) (fun _ _ _ h => h) (Or.inl ⟨by rfl, ?_⟩) (by exact q2) ?_
                  rotate_left
                  focus
                    intro w9 hSw
                    try dsimp only at hSw
                    go_simp
                    try with_reducible rfl
                  try simp only [Act.put, List.setIfInBounds_toArray, List.set_cons_zero, List.set_cons_succ]
                  refine AnyK.take (i := 11) (v := ?_) rfl (by kernel_rfl) (by kernel_rfl) (by kernel_rfl) (by kernel_rfl) (fun _ _ _ h => h) (Or.inl ⟨by rfl, ?_⟩) (by exact q2) ?_
                  rotate_left
                  focus
                    intro w9 hSw
                    try dsimp only at hSw
                    go_simp
                    try with_reducible rfl
                  try simp only [Act.put, List.setIfInBounds_toArray, List.set_cons_zero, List.set_cons_succ]
                  refine AnyK.take (i := 13) (v := ?_) rfl (by kernel_rfl) (by kernel_rfl) (by kernel_rfl) (by kernel_rfl) (fun _ _ _ h => h) (Or.inl ⟨by rfl, ?_⟩) (by exact q2) ?_
                  rotate_left
                  focus
                    intro w9 hSw
                    try dsimp only at hSw
                    go_simp
                    try with_reducible rfl
                  try simp only [Act.put, List.setIfInBounds_toArray, List.set_cons_zero, List.set_cons_succ]
                  refine AnyK.take (i := 14) (v := ?_) rfl (by kernel_rfl) (by kernel_rfl) (by kernel_rfl) (by kernel_rfl) (fun _ _ _ h => h) (Or.inl ⟨by rfl, ?_⟩) (by exact q2) ?_
                  rotate_left
                  focus
                    intro w9 hSw
                    try dsimp only at hSw
                    go_simp
                    try with_reducible rfl
                  try simp only [Act.put, List.setIfInBounds_toArray, List.set_cons_zero, List.set_cons_succ]
                  refine AnyK.take (i := 15) (v := ?_) rfl (by kernel_rfl) (by kernel_rfl) (by kernel_rfl) (by kernel_rfl) (fun _ _ _ h => h) (Or.inl ⟨by rfl, ?_⟩) (by exact q2) ?_
                  rotate_left
                  focus
                    intro w9 hSw
                    try dsimp only at hSw
                    go_simp
                    try with_reducible rfl
                  try simp only [Act.put, List.setIfInBounds_toArray, List.set_cons_zero, List.set_cons_succ]
                  refine AnyK.take (i := 16) (v := ?_) rfl (by kernel_rfl) (by kernel_rfl) (by kernel_rfl) (by kernel_rfl) (fun _ _ _ h => h) (Or.inl ⟨by rfl, ?_⟩) (by exact q2) ?_
                  rotate_left
                  focus
                    intro w9 hSw
                    try dsimp only at hSw
                    go_simp
                    try with_reducible rfl
                  try simp only [Act.put, List.setIfInBounds_toArray, List.set_cons_zero, List.set_cons_succ]
                  refine AnyK.one (i := 12) (by kernel_rfl) rfl (fun K hK => ?_)
                  go_simp
                  go_at_call 18
                  refine (LK.out _ H2).mono ?_
                  rintro e z3 ⟨vp, vk, vn, rfl, H3⟩
                  have q3 := XC.out z3 H3.fr
                  refine hK.out _ _ (fun _ => q3) ?_
                  clear hK K
                  try simp only [Act.put, List.setIfInBounds_toArray, List.set_cons_zero, List.set_cons_succ]
                  refine AnyK.one (i := 17) (by kernel_rfl) rfl (fun K hK => ?_)
                  go_simp
                  go_at_call 17
                  refine (Node_h H3 s _ _ KK.out.1 KK.out.2.1 KK.out.2.2.1 KK.out.2.2.2).mono ?_
                  rintro e z4 ⟨vp2, vk2, vn2, rfl, H4⟩
                  have q4 := XC.out z4 H4.fr
                  refine hK.out _ _ (fun _ => q4) ?_
                  clear hK K
                  try simp only [Act.put, List.setIfInBounds_toArray, List.set_cons_zero, List.set_cons_succ]
                  refine AnyK.one (i := 18) (by kernel_rfl) rfl (fun K hK => ?_)
                  go_simp
                  go_at_call 19
                  refine (SameN_calls s.nd vp vk vn vp2 vk2 vn2 _ ⟨(H4.row 2 rfl).rdv, (H4.row 3 rfl).rdv, (H4.row 4 rfl).rdv⟩ ⟨(H4.row 5 rfl).rdv, (H4.row 6 rfl).rdv, (H4.row 7 rfl).rdv⟩).mono ?_
                  rintro e z5 ⟨rfl, F5⟩
                  have H5 := H4.go F5
                  have q5 := XC.out z5 H5.fr
                  refine hK.out _ _ (fun _ => q5) ?_
                  clear hK K
                  try simp only [Act.put, List.setIfInBounds_toArray, List.set_cons_zero, List.set_cons_succ]
                  refine AnyK.one (i := 19) (by kernel_rfl) rfl (fun K hK => ?_)
                  go_simp
                  refine hK.out _ _ (fun _ => q5) ?_
                  clear hK K
                  try simp only [Act.put, List.setIfInBounds_toArray, List.set_cons_zero, List.set_cons_succ]
                  refine AnyK.one (i := 20) (by kernel_rfl) rfl (fun K hK => ?_)
                  go_simp
                  refine hK.out _ _ (fun _ => q5) ?_
                  clear hK K
                  try simp only [Act.put, List.setIfInBounds_toArray, List.set_cons_zero, List.set_cons_succ]
                  refine AnyK.done (by kernel_rfl) ?_ _
                  refine NoPanic.normal ?_
                  go_wp2_with fail
                  go_meet
                  exact ⟨rfl, Heap.first (Heap.first H5)⟩
                case rest =>
                  obtain ⟨rfl, HZ⟩ := hcut
                  have HZZ := Lib.hid HZ
                  clear HZ x0 x1 x2 x3
                  go_wp2_with fail
                  exact ⟨⟨j + 1, by omega, by go_num, HZZ⟩, by simp [intOf]; omega⟩
              · have C1 : Calls Try.prog 16 #[.pointer (some ⟨a, 0, none⟩)] wr fun e w' => e = .returned (.int .i64 xs.length) ∧ w' = wr := by
                  have := Used_h HH.out 0 rfl
                  rw [← HNL.out]
                  exact this
                have C2 : Calls Try.prog 22 #[.pointer (some ⟨a, 0, none⟩)] wr fun e w' => e = .returned (.int .i64 8) ∧ w' = wr := Faults_h HH.out 0 rfl
                have CC := Lib.hid (And.intro C1 C2)
                clear C1 C2
                go_wp2_with fail
                refine CC.out.2.mono ?_
                rintro e w' ⟨rfl, hw⟩
                have hw := hw.symm
                subst hw
                go_wp2_with fail
                refine CC.out.1.mono ?_
                rintro e w' ⟨rfl, hw⟩
                have hw := hw.symm
                subst hw
                go_wp2_with fail
                go_ret
                exact ⟨rfl, HH.out.below⟩
end Go.Proofs.Ytolkpmbmgiplcaa
