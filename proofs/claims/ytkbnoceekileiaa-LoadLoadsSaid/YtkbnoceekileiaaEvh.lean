/- boscagelaw11.Even: the even tree: its contract. No condition but the bounds of size. -/
import Derived.Test.YtkbnoceekileiaaEvg
import Derived.Test.YtkbnoceekileiaaAll
namespace Go.Proofs.Ytkbnoceekileiaa
open Go Go.RowKit
set_option linter.unusedVariables false
set_option linter.unusedSimpArgs false
set_option maxRecDepth 100000
theorem Heap.lv_start {w0 w : World} {P A B R : Piece} {row : List Sh} {cs : List Sv} (h : Heap w0 w (P :: A :: B :: shsP row cs :: [R])) : Heap w0 w (P :: fosP row cs [] [] :: A :: B :: [R]) := by
  have h1 : Heap w0 w ([] ++ [P, A, B] ++ [shsP row cs, R]) := h
  have h2 : Heap w0 w (shsP row cs :: R :: [P, A, B]) := Heap.swapE h1
  have h3 := h2.fosStart
  have h4 : Heap w0 w ([] ++ [fosP row cs [] [], R] ++ [P, A, B]) := h3
  have h5 : Heap w0 w (P :: A :: B :: fosP row cs [] [] :: [R]) := Heap.swapE h4
  have h6 : Heap w0 w ([P] ++ [A, B] ++ [fosP row cs [] [], R]) := h5
  have h7 : Heap w0 w ([P] ++ [fosP row cs [] [], R] ++ [A, B]) := Heap.swapE h6
  have h8 : Heap w0 w ([P, fosP row cs [] []] ++ [R] ++ [A, B]) := h7
  exact Heap.swapE h8
theorem lv_push {w0 w : World} {row up : List Sh} {cs cu : List Sv} {ks : List Int} {vk vc : Value} {m k nk : Nat} {A B C : Piece} {D : List Piece} (hk : ks.length = nk) (hr : ((row.drop m).take k).length = k) (hl : cs.length = row.length) (hu : cu.length = up.length)
    (h : Heap w0 w (rowP 2 1 vk nk (intC ks) :: rowP 33 5 vc k (rowC ((row.drop m).take k) ((cs.drop m).take k)) :: A :: B :: C :: fosP row cs up cu :: D)) :
    Heap w0 w (A :: B :: C :: fosP row cs (up ++ [.mk false false [] ks ((row.drop m).take k)]) (cu ++ [⟨.slice none 0 0, vk, vc⟩]) :: D) := by
  have h1 : Heap w0 w ([rowP 2 1 vk nk (intC ks), rowP 33 5 vc k (rowC ((row.drop m).take k) ((cs.drop m).take k))] ++ [A, B, C] ++ (fosP row cs up cu :: D)) := h
  have h2 : Heap w0 w (rowP 2 1 vk nk (intC ks) :: rowP 33 5 vc k (rowC ((row.drop m).take k) ((cs.drop m).take k)) :: fosP row cs up cu :: (D ++ [A, B, C])) := Heap.swapE h1
  have h3 := Heap.fosPush hk hr hl hu h2
  have h4 : Heap w0 w ([] ++ (fosP row cs (up ++ [.mk false false [] ks ((row.drop m).take k)]) (cu ++ [⟨.slice none 0 0, vk, vc⟩]) :: D) ++ [A, B, C]) := h3
  exact Heap.swapE h4
theorem lv_end {w0 w : World} {row up : List Sh} {cs cu : List Sv} {A B C D E R : Piece} (h : Heap w0 w ([A, B, C] ++ [fosP row cs up cu, D, E, R])) : Heap w0 w [A, B, shsP up cu, R] := by
  have h1 : Heap w0 w ([A, B] ++ [C] ++ [fosP row cs up cu, D, E, R]) := h
  have h2 := Heap.mid h1
  have h3 : Heap w0 w ([A, B, fosP row cs up cu] ++ [D, E] ++ [R]) := h2
  have h4 := Heap.mid h3
  have h5 : Heap w0 w ([] ++ [A, B] ++ [fosP row cs up cu, R]) := h4
  have h6 : Heap w0 w (fosP row cs up cu :: R :: [A, B]) := Heap.swapE h5
  have h7 : Heap w0 w ([] ++ [shsP up cu, R] ++ [A, B]) := h6.fosEnd
  exact Heap.swapE h7
theorem np_in {w0 w : World} {x1 : List (Int × Int)} {k : Nat} (hx : x1.length = k) {A B C R : Piece} {va : Value} {l : List Sh} {cs : List Sv} (hc : cs.length = l.length) (h : Heap w0 w (rowP 77 2 va k (pairC x1) :: A :: B :: C :: shsP l cs :: [R])) : Heap w0 w (A :: B :: C :: shsP (l ++ [.mk true false x1 [] []]) (cs ++ [⟨va, .slice none 0 0, .slice none 0 0⟩]) :: [R]) := by
  have h1 := Heap.leafMake hx h
  have h2 : Heap w0 w ([] ++ [shP (.mk true false x1 [] []) ⟨va, .slice none 0 0, .slice none 0 0⟩, A, B, C] ++ [shsP l cs, R]) := h1
  have h3 : Heap w0 w (shsP l cs :: R :: shP (.mk true false x1 [] []) ⟨va, .slice none 0 0, .slice none 0 0⟩ :: [A, B, C]) := Heap.swapE h2
  have h4 : Heap w0 w (shsP l cs :: shP (.mk true false x1 [] []) ⟨va, .slice none 0 0, .slice none 0 0⟩ :: R :: [A, B, C]) := h3.rot3.swap2
  have h5 := Heap.shsPush h4 hc
  have h6 : Heap w0 w ([] ++ [shsP (l ++ [.mk true false x1 [] []]) (cs ++ [⟨va, .slice none 0 0, .slice none 0 0⟩]), R] ++ [A, B, C]) := h5
  exact Heap.swapE h6
def evenPost (w : World) (b : Nat) (ps : List (Int × Int)) (e : Ending) (w' : World) : Prop := ∃ sv : Sv, e = .returned (shV (evenSh b ps) sv) ∧ Heap w w' [shP (evenSh b ps) sv]
set_option maxHeartbeats 200000000 in
theorem Even_h (w : World) (v : Value) (ps : List (Int × Int)) (b : Nat) (hb : 2 ≤ b ∧ b ≤ 1000) (hl : ps.length ≤ 10000) (R : RdV w v ps.length 2 (pairC ps)) :
    Calls Try.prog 36 #[v, .int .i64 (b : Int)] w (evenPost w b ps) := by
  obtain ⟨va, vc, rfl⟩ := R.len
  obtain ⟨b1, b2⟩ := hb
  have HR := Lib.hid R
  obtain ⟨n, hn⟩ : ∃ n, ps.length = n := ⟨_, rfl⟩
  have HPL := Lib.hid hn
  rw [hn] at hl ⊢
  have H1 := (Heap.start w).allocF 33 #[.bool false, .bool false, .slice none 0 0, .slice none 0 0, .slice none 0 0]
  obtain ⟨b4, hb4⟩ : ∃ b, w.heap.size = b := ⟨_, rfl⟩
  obtain ⟨w1, hw1⟩ : ∃ z, w.alloc (.cells #[.bool false, .bool false, .slice none 0 0, .slice none 0 0, .slice none 0 0] 33) = z := ⟨_, rfl⟩
  rw [hb4, hw1] at H1
  have HWW := Lib.hid (And.intro hb4 hw1)
  have HH := Lib.hid H1
  obtain ⟨i0, hi0, hz0, hz1, hz2⟩ := info_parts info_shape
  have I0 := Lib.hid (And.intro hi0 (And.intro hz0 (And.intro hz1 hz2)))
  obtain ⟨j0, hj0, jz0, jz1, jz2⟩ := info_parts info_i64
  have J0 := Lib.hid (And.intro hj0 (And.intro jz0 (And.intro jz1 jz2)))
  obtain ⟨p0, hp0, pz0, pz1, pz2⟩ := info_parts info_pair
  have P0 := Lib.hid (And.intro hp0 (And.intro pz0 (And.intro pz1 pz2)))
  clear hi0 hz0 hz1 hz2 hj0 jz0 jz1 jz2 hp0 pz0 pz1 pz2
  clear R hn H1 hb4 hw1
  by_cases hz : n = 0
  · subst hz
    have hps : ps = [] := List.eq_nil_of_length_eq_zero HPL.out
    have HE : Hid (evenSh b ps = nilSh) := Lib.hid (by unfold evenSh; rw [if_pos hps])
    have B4 := HH.out.blk 0 (b := b4) (t := 33) (c := #[.bool false, .bool false, .slice none 0 0, .slice none 0 0, .slice none 0 0]) rfl
    have o0 := B4.cell 0
    have o1 := B4.cell 1
    have o2 := B4.cell 2
    have o3 := B4.cell 3
    have o4 := B4.cell 4
    have f0 := B4.froz 0
    have f1 := B4.froz 1
    have f2 := B4.froz 2
    have f3 := B4.froz 3
    have f4 := B4.froz 4
    have HX := ((((HH.out.setCell 0 rfl 0 (.bool true)).setCell 0 rfl 1 (.bool false)).setCell 0 rfl 2 (.slice none 0 0)).setCell 0 rfl 3 (.slice none 0 0)).setCell 0 rfl 4 (.slice none 0 0)
    have BX := HX.blk 0 (b := b4) (t := 33) (c := #[.bool true, .bool false, .slice none 0 0, .slice none 0 0, .slice none 0 0]) rfl
    have HX := Lib.hid HX.tailP
    have HBX := Lib.hid BX
    clear HH B4 BX hps
    go_enter Try.func36, Try.ntmps36
    go_upto_region 1 with fail
    rw [HWW.out.1, HWW.out.2]
    go_wp2_with fail
    have x0 := HBX.out.cell 0
    have x1 := HBX.out.cell 1
    have x2 := HBX.out.cell 2
    have x3 := HBX.out.cell 3
    have x4 := HBX.out.cell 4
    refine bodyPost_ret (v := .agg #[.bool true, .bool false, .slice none 0 0, .slice none 0 0, .slice none 0 0]) (by simp [results, Try.results36, go_sem, x0, x1, x2, x3, x4]) rfl ?_
    refine ⟨⟨.slice none 0 0, .slice none 0 0, .slice none 0 0⟩, by rw [HE.out]; rfl, ?_⟩
    rw [HE.out]
    exact Heap.leafMake (ps := []) rfl (HX.out.rowNilF 77 2)
  · have hn1 : 1 ≤ n := by omega
    have hnz : ((n : Int) == 0) = false := beq_eq_false_iff_ne.2 (by omega)
    have hk1 := partK_pos n b
    have hk2 : partK n b ≤ n := partK_le (by omega) hn1
    have CP := Lib.hid (Parts11_h w1 n b ⟨hn1, by omega⟩ ⟨by omega, b2⟩)
    have HRD : Hid (∀ z l, Heap w z l → RdV z (.slice va (n - sumP n b 0) vc) (n - sumP n b 0) 2 (pairC (ps.drop (sumP n b 0)))) := Lib.hid (fun z l hz => by
      have e : sumP n b 0 = 0 := rfl
      have h := HR.out.fr hz.fr (fun _ _ _ x => x)
      rw [HPL.out] at h
      rw [e]
      exact h)
    clear HR hz
    go_enter Try.func36, Try.ntmps36
    go_upto_region 1 with fail
    rw [HWW.out.1, HWW.out.2]
    clear HWW
    go_wp2_with fail
    refine CP.out.mono ?_
    rintro e w2 ⟨pa, pc, rfl, H2⟩
    clear CP hnz
    have HH : Hid (Heap w w2 ([rowP 33 5 (.slice none 0 0) 0 (rowC (leafS n b 0 ps) ([])), rowP 2 1 (.slice none 0 0) 0 (intC (leafK n b 0 ps)), rowP 3 1 (.slice pa (partK n b) pc) (partK n b) (intsC (partsN n b))] ++ ([shsP (leafS n b 0 ps) ([]), blkP b4 33 #[.bool false, .bool false, .slice none 0 0, .slice none 0 0, .slice none 0 0]]))) := Lib.hid ((((HH.out.join H2).swap2.shsNil).rot3.rowNilF 2 1).rowNilF 33 5)
    clear H2
    go_wp2_with fail
    go_loopw [0, 5, 6, 23] (fun s0 s5 s6 q wr => ∃ (i : Nat) (a1 : Option Addr) (c1 : Nat) (ar : Option Addr) (cr : Nat) (ak : Option Addr) (ck : Nat) (cs : List Sv), q = .int .i64 (i : Nat) ∧ i ≤ partK n b ∧ s0 = .slice a1 (n - sumP n b i) c1 ∧ s5 = .slice ar i cr ∧ s6 = .slice ak i ck ∧ Hid (∀ z l, Heap w z l → RdV z (.slice a1 (n - sumP n b i) c1) (n - sumP n b i) 2 (pairC (ps.drop (sumP n b i)))) ∧ Hid (cs.length = i ∧ Heap w wr ([rowP 33 5 (.slice ar i cr) i (rowC (leafS n b i ps) (cs)), rowP 2 1 (.slice ak i ck) i (intC (leafK n b i ps)), rowP 3 1 (.slice pa (partK n b) pc) (partK n b) (intsC (partsN n b))] ++ ([shsP (leafS n b i ps) (cs), blkP b4 33 #[.bool false, .bool false, .slice none 0 0, .slice none 0 0, .slice none 0 0]])))) (fun _ _ _ q _ => partK n b - (intOf q).toNat)
    case atStart =>
      have e : sumP n b 0 = 0 := rfl
      refine ⟨0, va, vc, none, 0, none, 0, [], rfl, Nat.zero_le _, ?_, rfl, rfl, HRD, Lib.hid ⟨rfl, HH.out⟩⟩
      rw [e]
      rfl
    case round =>
    clear HH HRD
    obtain ⟨i, a1, c1, ar, cr, ak, ck, cs, rfl, hi, rfl, rfl, rfl, HRD, HQ⟩ := hrel
    by_cases hlt : i < partK n b
    · have HLT := Lib.hid hlt
      have hm1 := sumP_le n b (i + 1)
      rw [sumP_next hlt] at hm1
      have hp1 : 1 ≤ partAt n b i := partAt_pos hn1 (by omega)
      obtain ⟨m, hm⟩ : ∃ m, sumP n b i = m := ⟨_, rfl⟩
      obtain ⟨k, hk⟩ : ∃ k, partAt n b i = k := ⟨_, rfl⟩
      rw [hm, hk] at hm1
      rw [hk] at hp1
      obtain ⟨lm, hlm⟩ : ∃ x, n - m = x := ⟨_, rfl⟩
      obtain ⟨fk, hfk⟩ : ∃ x, ps[m]? = some x := ⟨_, List.getElem?_eq_getElem (by rw [HPL.out]; omega)⟩
      obtain ⟨gk1, gk2⟩ := getD_consP hfk
      have HRD2 := HRD.out
      rw [hm, hlm] at HRD2 ⊢
      clear HRD
      obtain ⟨hcs, H0⟩ := HQ.out
      have HH := Lib.hid H0
      clear HQ
      have QP := (H0.row 2 (t := 3) (sz := 1) (n := partK n b) (v := .slice pa (partK n b) pc) (us := intsC (partsN n b)) rfl).rdv
      obtain ⟨pa1, rfl, _, hatp⟩ := QP.at (by omega)
      have y1 : World.cell? _ (pa1.add i) = some (.int .i64 (k : Int)) := hatp i _ (by unfold intsC; rw [List.getElem?_map, partsN_get HLT.out, hk]; rfl)
      have r1 := HRD2 _ _ H0
      obtain ⟨g1, rfl, hc1, _⟩ := r1.at (by omega)
      have y2 : ∀ z l, Heap w z l → World.cell? z g1 = some (.int .i64 fk.1) := fun z l hz => by
        have r2 := HRD2 z l hz
        obtain ⟨g3, e3, _, hat3⟩ := r2.at (by omega)
        have e3 : g1 = g3 := by simpa using e3
        subst e3
        have := hat3 0 _ gk2
        rwa [add_zero'] at this
      obtain ⟨vr, hvr⟩ : ∃ v, (if c1 = k then some g1 else some (g1.add (k * 2))) = v := ⟨_, rfl⟩
      have hkl : k ≤ lm := by omega
      have hkc1 : k ≤ c1 := by omega
      have hki : (1 : Int) ≤ (k : Int) := by omega
      have hl0 : (0 : Int) < (lm : Int) := by omega
      have hl0' : 0 < lm := by omega
      have hkli : (k : Int) ≤ (lm : Int) := by omega
      have HV : Hid (∀ z l, Heap w z l → RdV z (.slice (some g1) k c1) k 2 (pairC ((ps.drop m).take k)) ∧ RdV z (.slice vr (lm - k) (c1 - k)) (lm - k) 2 (pairC (ps.drop (m + k)))) := Lib.hid (fun z l hz => by
        have r1 := HRD2 z l hz
        have t2 := RdV.takeN r1 hkl (c' := c1) hkc1
        have t3 := r1.sliced (lo := k) (hi := lm) hkl (Nat.le_refl _)
        rw [pairC_take] at t2
        rw [sliced_k2, hvr, List.take_of_length_le (by rw [r1.1]; exact Nat.le_refl _), pairC_drop, List.drop_drop] at t3
        exact ⟨t2, t3⟩)
      obtain ⟨qs, hx1⟩ : ∃ x, (ps.drop m).take k = x := ⟨_, rfl⟩
      have hl1 : qs.length = k := by rw [← hx1, List.length_take, List.length_drop, HPL.out]; omega
      rw [hx1] at HV
      have HUN := leafS_next HLT.out ps
      have HUK := leafK_next HLT.out ps
      rw [hm, hk, hx1] at HUN
      rw [hm, gk1] at HUK
      have HSN := sumP_next HLT.out
      rw [hm, hk] at HSN
      have HF : Hid (∀ z, (∃ l, Hid (Heap w z (l ++ ([shsP (leafS n b i ps) (cs), blkP b4 33 #[.bool false, .bool false, .slice none 0 0, .slice none 0 0, .slice none 0 0]])))) → World.cell? z g1 = some (.int .i64 fk.1)) := Lib.hid (fun z ⟨l, hz⟩ => y2 z _ hz.out)
      have HL := Lib.hid (show i + 1 ≤ maxLen ∧ (i + 1) * 8 ≤ 140737488355328 by unfold maxLen; omega)
      have HL5 := Lib.hid (show i + 1 ≤ maxLen ∧ (i + 1) * 80 ≤ 140737488355328 by unfold maxLen; omega)
      have HLK := Lib.hid (show 0 + k ≤ maxLen ∧ (0 + k) * 16 ≤ 140737488355328 by unfold maxLen; omega)
      have HE := Lib.hid hvr
      have HX := Lib.hid (And.intro hx1 hl1)
      have HM9 := Lib.hid (And.intro hm (And.intro hk (And.intro hlm hfk)))
      have HN := Lib.hid (And.intro HUN (And.intro HUK (And.intro HSN hcs)))
      have hln2 := leafS_len hi ps
      have HLN := Lib.hid hln2
      clear hvr hx1 hm hk hlm hfk HUN HUK HSN hln2 y2 gk1 gk2 hatp QP r1 HRD2 hl1 H0 hcs
      obtain ⟨fk1, hfk1⟩ : ∃ x, fk.1 = x := ⟨_, rfl⟩
      rw [hfk1] at HF HN
      clear hfk1
      go_upto_region 8 with fail
      go_cut [5, 6] from 27 to 42 (fun s5 s6 wx => ∃ (ar : Option Addr) (cr : Nat) (ak : Option Addr) (ck : Nat) (cs : List Sv), s5 = .slice ar (i + 1) cr ∧ s6 = .slice ak (i + 1) ck ∧ Hid (cs.length = i + 1 ∧ Heap w wx ([rowP 33 5 (.slice ar (i + 1) cr) (i + 1) (rowC (leafS n b (i + 1) ps) (cs)), rowP 2 1 (.slice ak (i + 1) ck) (i + 1) (intC (leafK n b (i + 1) ps)), rowP 3 1 (.slice (some pa1) (partK n b) pc) (partK n b) (intsC (partsN n b))] ++ ([shsP (leafS n b (i + 1) ps) (cs), blkP b4 33 #[.bool false, .bool false, .slice none 0 0, .slice none 0 0, .slice none 0 0]]))))
      case first =>
        have HZ := Lib.hid HH.out.drew
        clear HH y1
        refine wp_region_noPanic ?_
        refine AnyK.start (ks := [16, 17]) (S := fun w' => ∃ l, Hid (Heap w w' (l ++ ([shsP (leafS n b i ps) (cs), blkP b4 33 #[.bool false, .bool false, .slice none 0 0, .slice none 0 0, .slice none 0 0]])))) (by kernel_rfl) (by exact ⟨_, HZ⟩) (fun _ => ?_)
        refine AnyK.takeB (i := 0) (v := ?_) rfl (by kernel_rfl) (by kernel_rfl) (by kernel_rfl) (by kernel_rfl) (fun _ _ _ h => h) (Or.inl ⟨by kernel_rfl, ?_⟩) (by exact ⟨_, HZ⟩) ?_
        rotate_left
        focus
          intro w9 hSw
          have hSw := HF.out w9 hSw
          go_simp
          try with_reducible rfl
        try simp only [Act.put, List.getElem_toArray, List.getElem_cons_zero, List.getElem_cons_succ, List.setIfInBounds_toArray, List.set_cons_zero, List.set_cons_succ]
        refine AnyK.takeB (i := 2) (v := ?_) rfl (by kernel_rfl) (by kernel_rfl) (by kernel_rfl) (by kernel_rfl) (fun _ _ _ h => h) (Or.inl ⟨by kernel_rfl, ?_⟩) (by exact ⟨_, HZ⟩) ?_
        rotate_left
        focus
          intro w9 hSw
          have hSw := HF.out w9 hSw
          go_simp
          try with_reducible rfl
        try simp only [Act.put, List.getElem_toArray, List.getElem_cons_zero, List.getElem_cons_succ, List.setIfInBounds_toArray, List.set_cons_zero, List.set_cons_succ]
        refine AnyK.takeB (i := 3) (v := ?_) rfl (by kernel_rfl) (by kernel_rfl) (by kernel_rfl) (by kernel_rfl) (fun _ _ _ h => h) (Or.inl ⟨by kernel_rfl, ?_⟩) (by exact ⟨_, HZ⟩) ?_
        rotate_left
        focus
          intro w9 hSw
          have hSw := HF.out w9 hSw
          go_simp
          try with_reducible rfl
        try simp only [Act.put, List.getElem_toArray, List.getElem_cons_zero, List.getElem_cons_succ, List.setIfInBounds_toArray, List.set_cons_zero, List.set_cons_succ]
        refine AnyK.takeB (i := 4) (v := ?_) rfl (by kernel_rfl) (by kernel_rfl) (by kernel_rfl) (by kernel_rfl) (fun _ _ _ h => h) (Or.inl ⟨by kernel_rfl, ?_⟩) (by exact ⟨_, HZ⟩) ?_
        rotate_left
        focus
          intro w9 hSw
          have hSw := HF.out w9 hSw
          go_simp
          try with_reducible rfl
        try simp only [Act.put, List.getElem_toArray, List.getElem_cons_zero, List.getElem_cons_succ, List.setIfInBounds_toArray, List.set_cons_zero, List.set_cons_succ]
        refine AnyK.takeB (i := 9) (v := ?_) rfl (by kernel_rfl) (by kernel_rfl) (by kernel_rfl) (by kernel_rfl) (fun _ _ _ h => h) (Or.inl ⟨by kernel_rfl, ?_⟩) (by exact ⟨_, HZ⟩) ?_
        rotate_left
        focus
          intro w9 hSw
          have hSw := HF.out w9 hSw
          go_simp
          try with_reducible rfl
        try simp only [Act.put, List.getElem_toArray, List.getElem_cons_zero, List.getElem_cons_succ, List.setIfInBounds_toArray, List.set_cons_zero, List.set_cons_succ]
        refine AnyK.takeB (i := 10) (v := ?_) rfl (by kernel_rfl) (by kernel_rfl) (by kernel_rfl) (by kernel_rfl) (fun _ _ _ h => h) (Or.inl ⟨by kernel_rfl, ?_⟩) (by exact ⟨_, HZ⟩) ?_
        rotate_left
        focus
          intro w9 hSw
          have hSw := HF.out w9 hSw
          go_simp
          try with_reducible rfl
        try simp only [Act.put, List.getElem_toArray, List.getElem_cons_zero, List.getElem_cons_succ, List.setIfInBounds_toArray, List.set_cons_zero, List.set_cons_succ]
        refine AnyK.takeB (i := 11) (v := ?_) rfl (by kernel_rfl) (by kernel_rfl) (by kernel_rfl) (by kernel_rfl) (fun _ _ _ h => h) (Or.inl ⟨by kernel_rfl, ?_⟩) (by exact ⟨_, HZ⟩) ?_
        rotate_left
        focus
          intro w9 hSw
          have hSw := HF.out w9 hSw
          go_simp
          try with_reducible rfl
        try simp only [Act.put, List.getElem_toArray, List.getElem_cons_zero, List.getElem_cons_succ, List.setIfInBounds_toArray, List.set_cons_zero, List.set_cons_succ]
        refine AnyK.takeB (i := 12) (v := ?_) rfl (by kernel_rfl) (by kernel_rfl) (by kernel_rfl) (by kernel_rfl) (fun _ _ _ h => h) (Or.inl ⟨by kernel_rfl, ?_⟩) (by exact ⟨_, HZ⟩) ?_
        rotate_left
        focus
          intro w9 hSw
          have hSw := HF.out w9 hSw
          go_simp
          try with_reducible rfl
        try simp only [Act.put, List.getElem_toArray, List.getElem_cons_zero, List.getElem_cons_succ, List.setIfInBounds_toArray, List.set_cons_zero, List.set_cons_succ]
        refine AnyK.takeB (i := 13) (v := ?_) rfl (by kernel_rfl) (by kernel_rfl) (by kernel_rfl) (by kernel_rfl) (fun _ _ _ h => h) (Or.inl ⟨by kernel_rfl, ?_⟩) (by exact ⟨_, HZ⟩) ?_
        rotate_left
        focus
          intro w9 hSw
          have hSw := HF.out w9 hSw
          go_simp
          try with_reducible rfl
        try simp only [Act.put, List.getElem_toArray, List.getElem_cons_zero, List.getElem_cons_succ, List.setIfInBounds_toArray, List.set_cons_zero, List.set_cons_succ]
        clear hc1
        refine name_w (fun z0 hz0 => ?_)
        rw [hz0] at HZ
        clear hz0
        refine AnyK.two (i := 1) (j := 14) (by kernel_rfl) rfl rfl (fun K9 hK9 => ?_) (fun K9 hK9 => ?_)
        · go_simp
          have H9 := HZ.out.row0F 77 2
          generalize z0.heap.size = bp at H9 hK9 ⊢
          generalize z0.alloc (.cells #[] 77) = x1 at H9 hK9 ⊢
          have H9 : Heap w x1 ([rowP 77 2 (.slice (some ⟨bp, 0, none⟩) 0 0) 0 [], rowP 33 5 (.slice ar i cr) i (rowC (leafS n b i ps) (cs)), rowP 2 1 (.slice ak i ck) i (intC (leafK n b i ps)), rowP 3 1 (.slice (some pa1) (partK n b) pc) (partK n b) (intsC (partsN n b))] ++ ([shsP (leafS n b i ps) (cs), blkP b4 33 #[.bool false, .bool false, .slice none 0 0, .slice none 0 0, .slice none 0 0]])) := H9
          have E0HH1 := Lib.hid H9
          clear H9 HZ
          refine hK9.out _ _ (fun _ => ⟨_, E0HH1⟩) ?_
          clear hK9 K9
          try simp only [Act.put, List.getElem_toArray, List.getElem_cons_zero, List.getElem_cons_succ, List.setIfInBounds_toArray, List.set_cons_zero, List.set_cons_succ]
          refine AnyK.two (i := 5) (j := 14) (by kernel_rfl) rfl rfl (fun K9 hK9 => ?_) (fun K9 hK9 => ?_)
          · refine step_append_typed _ (by rfl) (.tmp 28) (.tmp 31) 30 (by rfl) 77 p0 (.agg #[.int .i64 0, .int .i64 0]) 2 16 Try.underlying30 P0.out.1 P0.out.2.1 P0.out.2.2.1 P0.out.2.2.2 rfl (by decide) (.slice (some ⟨bp, 0, none⟩) 0 0) 0 [] (by simp [Act.eval]) (E0HH1.out.row 0 rfl) (.slice (some g1) k c1) k (pairC qs) (by simp [Act.eval]) ((HV.out _ _ E0HH1.out).1) (pairC_one qs) HLK.out.1 HLK.out.2 ?_
            intro a5 c5 w5 q5 grow5 hat5
            have H9 := E0HH1.out.appRow 0 (m := k) rfl (Fr.refl _ _) q5 grow5 hat5
            rw [Nat.zero_add, List.nil_append] at H9
            rw [Nat.zero_add]
            clear q5 grow5 hat5
            have H9 : Heap w w5 ([rowP 77 2 (.slice a5 k c5) k (pairC qs), rowP 33 5 (.slice ar i cr) i (rowC (leafS n b i ps) (cs)), rowP 2 1 (.slice ak i ck) i (intC (leafK n b i ps)), rowP 3 1 (.slice (some pa1) (partK n b) pc) (partK n b) (intsC (partsN n b))] ++ ([shsP (leafS n b i ps) (cs), blkP b4 33 #[.bool false, .bool false, .slice none 0 0, .slice none 0 0, .slice none 0 0]])) := H9
            have E1HH2 := Lib.hid H9
            clear H9 E0HH1
            refine hK9.out _ _ (fun _ => ⟨_, E1HH2⟩) ?_
            clear hK9 K9
            try simp only [Act.put, List.getElem_toArray, List.getElem_cons_zero, List.getElem_cons_succ, List.setIfInBounds_toArray, List.set_cons_zero, List.set_cons_succ]
            refine AnyK.takeB (i := 6) (v := ?_) rfl (by kernel_rfl) (by kernel_rfl) (by kernel_rfl) (by kernel_rfl) (fun _ _ _ h => h) (Or.inl ⟨by kernel_rfl, ?_⟩) (by exact ⟨_, E1HH2⟩) ?_
            rotate_left
            focus
              intro w9 hSw
              have hSw := HF.out w9 hSw
              go_simp
              try with_reducible rfl
            try simp only [Act.put, List.getElem_toArray, List.getElem_cons_zero, List.getElem_cons_succ, List.setIfInBounds_toArray, List.set_cons_zero, List.set_cons_succ]
            refine AnyK.two (i := 7) (j := 14) (by kernel_rfl) rfl rfl (fun K9 hK9 => ?_) (fun K9 hK9 => ?_)
            · go_simp
              have H9 := E1HH2.out.allocF 33 #[.bool true, .bool false, .slice a5 k c5, .slice none 0 0, .slice none 0 0]
              generalize w5.heap.size = bs at H9 hK9 ⊢
              generalize w5.alloc (.cells #[.bool true, .bool false, .slice a5 k c5, .slice none 0 0, .slice none 0 0] 33) = x7 at H9 hK9 ⊢
              have H9 : Heap w x7 ([blkP bs 33 #[.bool true, .bool false, .slice a5 k c5, .slice none 0 0, .slice none 0 0], rowP 77 2 (.slice a5 k c5) k (pairC qs), rowP 33 5 (.slice ar i cr) i (rowC (leafS n b i ps) (cs)), rowP 2 1 (.slice ak i ck) i (intC (leafK n b i ps)), rowP 3 1 (.slice (some pa1) (partK n b) pc) (partK n b) (intsC (partsN n b))] ++ ([shsP (leafS n b i ps) (cs), blkP b4 33 #[.bool false, .bool false, .slice none 0 0, .slice none 0 0, .slice none 0 0]])) := H9
              have E2HH3 := Lib.hid H9
              clear H9 E1HH2
              refine hK9.out _ _ (fun _ => ⟨_, E2HH3⟩) ?_
              clear hK9 K9
              try simp only [Act.put, List.getElem_toArray, List.getElem_cons_zero, List.getElem_cons_succ, List.setIfInBounds_toArray, List.set_cons_zero, List.set_cons_succ]
              refine AnyK.two (i := 8) (j := 14) (by kernel_rfl) rfl rfl (fun K9 hK9 => ?_) (fun K9 hK9 => ?_)
              · refine step_append_typed _ (by rfl) (.tmp 27) (.tmp 34) 31 (by rfl) 33 i0 (.agg #[.bool false, .bool false, .slice none 0 0, .slice none 0 0, .slice none 0 0]) 5 80 Try.underlying31 I0.out.1 I0.out.2.1 I0.out.2.2.1 I0.out.2.2.2 rfl (by decide) (.slice ar i cr) i (rowC (leafS n b i ps) cs) (by simp [Act.eval]) (E2HH3.out.row 2 rfl) (.slice (some ⟨bs, 0, none⟩) 1 1) 1 [.bool true, .bool false, .slice a5 k c5, .slice none 0 0, .slice none 0 0] (by simp [Act.eval]) (RdV.block (cs := #[.bool true, .bool false, .slice a5 k c5, .slice none 0 0, .slice none 0 0]) (t := 33) (E2HH3.out.blk 0 rfl) rfl (by decide)) (by simp [Value.oneCell']) HL5.out.1 HL5.out.2 ?_
                intro a8 c8 w8 q8 grow8 hat8
                have H9 := E2HH3.out.growRow 2 rfl (Fr.refl _ _) q8 grow8 (fun g hg => (hat8 g hg).resolve_left (fun h => absurd h.1 (by decide)))
                clear q8 grow8 hat8
                have H9 : Heap w w8 ([blkP bs 33 #[.bool true, .bool false, .slice a5 k c5, .slice none 0 0, .slice none 0 0], rowP 77 2 (.slice a5 k c5) k (pairC qs), rowP 33 5 (.slice a8 (i + 1) c8) (i + 1) (rowC (leafS n b i ps) cs ++ [.bool true, .bool false, .slice a5 k c5, .slice none 0 0, .slice none 0 0]), rowP 2 1 (.slice ak i ck) i (intC (leafK n b i ps)), rowP 3 1 (.slice (some pa1) (partK n b) pc) (partK n b) (intsC (partsN n b))] ++ ([shsP (leafS n b i ps) (cs), blkP b4 33 #[.bool false, .bool false, .slice none 0 0, .slice none 0 0, .slice none 0 0]])) := H9
                have E3HH4 := Lib.hid H9
                clear H9 E2HH3
                refine hK9.out _ _ (fun _ => ⟨_, E3HH4⟩) ?_
                clear hK9 K9
                try simp only [Act.put, List.getElem_toArray, List.getElem_cons_zero, List.getElem_cons_succ, List.setIfInBounds_toArray, List.set_cons_zero, List.set_cons_succ]
                refine AnyK.one (i := 14) (by kernel_rfl) rfl (fun K9 hK9 => ?_)
                go_simp
                have H9 := E3HH4.out.allocF 2 #[.int .i64 fk1]
                generalize w8.heap.size = bk at H9 hK9 ⊢
                generalize w8.alloc (.cells #[.int .i64 fk1] 2) = x14 at H9 hK9 ⊢
                have H9 : Heap w x14 ([blkP bk 2 #[.int .i64 fk1], blkP bs 33 #[.bool true, .bool false, .slice a5 k c5, .slice none 0 0, .slice none 0 0], rowP 77 2 (.slice a5 k c5) k (pairC qs), rowP 33 5 (.slice a8 (i + 1) c8) (i + 1) (rowC (leafS n b i ps) cs ++ [.bool true, .bool false, .slice a5 k c5, .slice none 0 0, .slice none 0 0]), rowP 2 1 (.slice ak i ck) i (intC (leafK n b i ps)), rowP 3 1 (.slice (some pa1) (partK n b) pc) (partK n b) (intsC (partsN n b))] ++ ([shsP (leafS n b i ps) (cs), blkP b4 33 #[.bool false, .bool false, .slice none 0 0, .slice none 0 0, .slice none 0 0]])) := H9
                have E4HH5 := Lib.hid H9
                clear H9 E3HH4
                refine hK9.out _ _ (fun _ => ⟨_, E4HH5⟩) ?_
                clear hK9 K9
                try simp only [Act.put, List.getElem_toArray, List.getElem_cons_zero, List.getElem_cons_succ, List.setIfInBounds_toArray, List.set_cons_zero, List.set_cons_succ]
                refine AnyK.one (i := 15) (by kernel_rfl) rfl (fun K9 hK9 => ?_)
                refine step_append_typed _ (by rfl) (.tmp 36) (.tmp 41) 22 (by rfl) 2 j0 (.int .i64 0) 1 8 Try.underlying22 J0.out.1 J0.out.2.1 J0.out.2.2.1 J0.out.2.2.2 rfl (by decide) (.slice ak i ck) i (intC (leafK n b i ps)) (by simp [Act.eval]) (E4HH5.out.row 4 rfl) (.slice (some ⟨bk, 0, none⟩) 1 1) 1 [.int .i64 fk1] (by simp [Act.eval]) (RdV.block (cs := #[.int .i64 fk1]) (t := 2) (E4HH5.out.blk 0 rfl) rfl (by decide)) (by simp [Value.oneCell']) HL.out.1 HL.out.2 ?_
                intro a9 c9 w9 q9 grow9 hat9
                have H9 := E4HH5.out.growRow 4 rfl (Fr.refl _ _) q9 grow9 (fun g hg => (hat9 g hg).resolve_left (fun h => absurd h.1 (by decide)))
                clear q9 grow9 hat9
                have H9 : Heap w w9 ([blkP bk 2 #[.int .i64 fk1], blkP bs 33 #[.bool true, .bool false, .slice a5 k c5, .slice none 0 0, .slice none 0 0], rowP 77 2 (.slice a5 k c5) k (pairC qs), rowP 33 5 (.slice a8 (i + 1) c8) (i + 1) (rowC (leafS n b i ps) cs ++ [.bool true, .bool false, .slice a5 k c5, .slice none 0 0, .slice none 0 0]), rowP 2 1 (.slice a9 (i + 1) c9) (i + 1) (intC (leafK n b i ps) ++ [.int .i64 fk1]), rowP 3 1 (.slice (some pa1) (partK n b) pc) (partK n b) (intsC (partsN n b))] ++ ([shsP (leafS n b i ps) (cs), blkP b4 33 #[.bool false, .bool false, .slice none 0 0, .slice none 0 0, .slice none 0 0]])) := H9
                have E5HH6 := Lib.hid H9
                clear H9 E4HH5
                refine hK9.out _ _ (fun _ => ⟨_, E5HH6⟩) ?_
                clear hK9 K9
                try simp only [Act.put, List.getElem_toArray, List.getElem_cons_zero, List.getElem_cons_succ, List.setIfInBounds_toArray, List.set_cons_zero, List.set_cons_succ]
                refine AnyK.phase (S' := fun _ => True) (ks' := []) (by kernel_rfl) ?_
                refine AnyK.take (i := 16) (v := ?_) rfl (by kernel_rfl) (by kernel_rfl) (by kernel_rfl) (by kernel_rfl) (fun _ _ _ h => h) (Or.inl ⟨by rfl, ?_⟩) (by exact trivial) ?_
                rotate_left
                focus
                  intro w9 hSw
                  try dsimp only at hSw
                  go_simp
                  try with_reducible rfl
                try simp only [Act.put, List.getElem_toArray, List.getElem_cons_zero, List.getElem_cons_succ, List.setIfInBounds_toArray, List.set_cons_zero, List.set_cons_succ]
                refine AnyK.take (i := 17) (v := ?_) rfl (by kernel_rfl) (by kernel_rfl) (by kernel_rfl) (by kernel_rfl) (fun _ _ _ h => h) (Or.inl ⟨by rfl, ?_⟩) (by exact trivial) ?_
                rotate_left
                focus
                  intro w9 hSw
                  try dsimp only at hSw
                  go_simp
                  try with_reducible rfl
                try simp only [Act.put, List.getElem_toArray, List.getElem_cons_zero, List.getElem_cons_succ, List.setIfInBounds_toArray, List.set_cons_zero, List.set_cons_succ]
                have H9 := E5HH6.out
                have H9 := Heap.mid (l := []) (m := [blkP bk 2 #[.int .i64 fk1]]) H9
                have H9 := Heap.mid (l := []) (m := [blkP bs 33 #[.bool true, .bool false, .slice a5 k c5, .slice none 0 0, .slice none 0 0]]) H9
                have H9 := np_in HX.out.2 (by rw [HLN.out]; exact HN.out.2.2.2) H9
                have HX2 : Hid (Heap w _ ([rowP 33 5 (.slice a8 (i + 1) c8) (i + 1) (rowC (leafS n b (i + 1) ps) ((cs ++ [⟨.slice a5 k c5, .slice none 0 0, .slice none 0 0⟩]))), rowP 2 1 (.slice a9 (i + 1) c9) (i + 1) (intC (leafK n b (i + 1) ps)), rowP 3 1 (.slice (some pa1) (partK n b) pc) (partK n b) (intsC (partsN n b))] ++ ([shsP (leafS n b (i + 1) ps) ((cs ++ [⟨.slice a5 k c5, .slice none 0 0, .slice none 0 0⟩])), blkP b4 33 #[.bool false, .bool false, .slice none 0 0, .slice none 0 0, .slice none 0 0]]))) := Lib.hid (by
                  rw [HN.out.1, HN.out.2.1, intC_snoc, rowC_snoc (by rw [HLN.out]; exact HN.out.2.2.2)]
                  exact H9)
                clear H9 E5HH6
                refine AnyK.done (by kernel_rfl) ?_ _
                refine NoPanic.normal ?_
                go_wp2_with fail
                go_meet
                exact ⟨a8, c8, a9, c9, _, rfl, rfl, Lib.hid ⟨by rw [List.length_append, HN.out.2.2.2]; rfl, HX2.out⟩⟩
              · go_simp
                have H9 := E2HH3.out.allocF 2 #[.int .i64 fk1]
                generalize x7.heap.size = bk at H9 hK9 ⊢
                generalize x7.alloc (.cells #[.int .i64 fk1] 2) = x14 at H9 hK9 ⊢
                have H9 : Heap w x14 ([blkP bk 2 #[.int .i64 fk1], blkP bs 33 #[.bool true, .bool false, .slice a5 k c5, .slice none 0 0, .slice none 0 0], rowP 77 2 (.slice a5 k c5) k (pairC qs), rowP 33 5 (.slice ar i cr) i (rowC (leafS n b i ps) (cs)), rowP 2 1 (.slice ak i ck) i (intC (leafK n b i ps)), rowP 3 1 (.slice (some pa1) (partK n b) pc) (partK n b) (intsC (partsN n b))] ++ ([shsP (leafS n b i ps) (cs), blkP b4 33 #[.bool false, .bool false, .slice none 0 0, .slice none 0 0, .slice none 0 0]])) := H9
                have E6HH4 := Lib.hid H9
                clear H9 E2HH3
                refine hK9.out _ _ (fun _ => ⟨_, E6HH4⟩) ?_
                clear hK9 K9
                try simp only [Act.put, List.getElem_toArray, List.getElem_cons_zero, List.getElem_cons_succ, List.setIfInBounds_toArray, List.set_cons_zero, List.set_cons_succ]
                refine AnyK.one (i := 8) (by kernel_rfl) rfl (fun K9 hK9 => ?_)
                refine step_append_typed _ (by rfl) (.tmp 27) (.tmp 34) 31 (by rfl) 33 i0 (.agg #[.bool false, .bool false, .slice none 0 0, .slice none 0 0, .slice none 0 0]) 5 80 Try.underlying31 I0.out.1 I0.out.2.1 I0.out.2.2.1 I0.out.2.2.2 rfl (by decide) (.slice ar i cr) i (rowC (leafS n b i ps) cs) (by simp [Act.eval]) (E6HH4.out.row 3 rfl) (.slice (some ⟨bs, 0, none⟩) 1 1) 1 [.bool true, .bool false, .slice a5 k c5, .slice none 0 0, .slice none 0 0] (by simp [Act.eval]) (RdV.block (cs := #[.bool true, .bool false, .slice a5 k c5, .slice none 0 0, .slice none 0 0]) (t := 33) (E6HH4.out.blk 1 rfl) rfl (by decide)) (by simp [Value.oneCell']) HL5.out.1 HL5.out.2 ?_
                intro a8 c8 w8 q8 grow8 hat8
                have H9 := E6HH4.out.growRow 3 rfl (Fr.refl _ _) q8 grow8 (fun g hg => (hat8 g hg).resolve_left (fun h => absurd h.1 (by decide)))
                clear q8 grow8 hat8
                have H9 : Heap w w8 ([blkP bk 2 #[.int .i64 fk1], blkP bs 33 #[.bool true, .bool false, .slice a5 k c5, .slice none 0 0, .slice none 0 0], rowP 77 2 (.slice a5 k c5) k (pairC qs), rowP 33 5 (.slice a8 (i + 1) c8) (i + 1) (rowC (leafS n b i ps) cs ++ [.bool true, .bool false, .slice a5 k c5, .slice none 0 0, .slice none 0 0]), rowP 2 1 (.slice ak i ck) i (intC (leafK n b i ps)), rowP 3 1 (.slice (some pa1) (partK n b) pc) (partK n b) (intsC (partsN n b))] ++ ([shsP (leafS n b i ps) (cs), blkP b4 33 #[.bool false, .bool false, .slice none 0 0, .slice none 0 0, .slice none 0 0]])) := H9
                have E7HH5 := Lib.hid H9
                clear H9 E6HH4
                refine hK9.out _ _ (fun _ => ⟨_, E7HH5⟩) ?_
                clear hK9 K9
                try simp only [Act.put, List.getElem_toArray, List.getElem_cons_zero, List.getElem_cons_succ, List.setIfInBounds_toArray, List.set_cons_zero, List.set_cons_succ]
                refine AnyK.one (i := 15) (by kernel_rfl) rfl (fun K9 hK9 => ?_)
                refine step_append_typed _ (by rfl) (.tmp 36) (.tmp 41) 22 (by rfl) 2 j0 (.int .i64 0) 1 8 Try.underlying22 J0.out.1 J0.out.2.1 J0.out.2.2.1 J0.out.2.2.2 rfl (by decide) (.slice ak i ck) i (intC (leafK n b i ps)) (by simp [Act.eval]) (E7HH5.out.row 4 rfl) (.slice (some ⟨bk, 0, none⟩) 1 1) 1 [.int .i64 fk1] (by simp [Act.eval]) (RdV.block (cs := #[.int .i64 fk1]) (t := 2) (E7HH5.out.blk 0 rfl) rfl (by decide)) (by simp [Value.oneCell']) HL.out.1 HL.out.2 ?_
                intro a9 c9 w9 q9 grow9 hat9
                have H9 := E7HH5.out.growRow 4 rfl (Fr.refl _ _) q9 grow9 (fun g hg => (hat9 g hg).resolve_left (fun h => absurd h.1 (by decide)))
                clear q9 grow9 hat9
                have H9 : Heap w w9 ([blkP bk 2 #[.int .i64 fk1], blkP bs 33 #[.bool true, .bool false, .slice a5 k c5, .slice none 0 0, .slice none 0 0], rowP 77 2 (.slice a5 k c5) k (pairC qs), rowP 33 5 (.slice a8 (i + 1) c8) (i + 1) (rowC (leafS n b i ps) cs ++ [.bool true, .bool false, .slice a5 k c5, .slice none 0 0, .slice none 0 0]), rowP 2 1 (.slice a9 (i + 1) c9) (i + 1) (intC (leafK n b i ps) ++ [.int .i64 fk1]), rowP 3 1 (.slice (some pa1) (partK n b) pc) (partK n b) (intsC (partsN n b))] ++ ([shsP (leafS n b i ps) (cs), blkP b4 33 #[.bool false, .bool false, .slice none 0 0, .slice none 0 0, .slice none 0 0]])) := H9
                have E8HH6 := Lib.hid H9
                clear H9 E7HH5
                refine hK9.out _ _ (fun _ => ⟨_, E8HH6⟩) ?_
                clear hK9 K9
                try simp only [Act.put, List.getElem_toArray, List.getElem_cons_zero, List.getElem_cons_succ, List.setIfInBounds_toArray, List.set_cons_zero, List.set_cons_succ]
                refine AnyK.phase (S' := fun _ => True) (ks' := []) (by kernel_rfl) ?_
                refine AnyK.take (i := 16) (v := ?_) rfl (by kernel_rfl) (by kernel_rfl) (by kernel_rfl) (by kernel_rfl) (fun _ _ _ h => h) (Or.inl ⟨by rfl, ?_⟩) (by exact trivial) ?_
                rotate_left
                focus
                  intro w9 hSw
                  try dsimp only at hSw
                  go_simp
                  try with_reducible rfl
                try simp only [Act.put, List.getElem_toArray, List.getElem_cons_zero, List.getElem_cons_succ, List.setIfInBounds_toArray, List.set_cons_zero, List.set_cons_succ]
                refine AnyK.take (i := 17) (v := ?_) rfl (by kernel_rfl) (by kernel_rfl) (by kernel_rfl) (by kernel_rfl) (fun _ _ _ h => h) (Or.inl ⟨by rfl, ?_⟩) (by exact trivial) ?_
                rotate_left
                focus
                  intro w9 hSw
                  try dsimp only at hSw
                  go_simp
                  try with_reducible rfl
                try simp only [Act.put, List.getElem_toArray, List.getElem_cons_zero, List.getElem_cons_succ, List.setIfInBounds_toArray, List.set_cons_zero, List.set_cons_succ]
                have H9 := E8HH6.out
                have H9 := Heap.mid (l := []) (m := [blkP bk 2 #[.int .i64 fk1]]) H9
                have H9 := Heap.mid (l := []) (m := [blkP bs 33 #[.bool true, .bool false, .slice a5 k c5, .slice none 0 0, .slice none 0 0]]) H9
                have H9 := np_in HX.out.2 (by rw [HLN.out]; exact HN.out.2.2.2) H9
                have HX2 : Hid (Heap w _ ([rowP 33 5 (.slice a8 (i + 1) c8) (i + 1) (rowC (leafS n b (i + 1) ps) ((cs ++ [⟨.slice a5 k c5, .slice none 0 0, .slice none 0 0⟩]))), rowP 2 1 (.slice a9 (i + 1) c9) (i + 1) (intC (leafK n b (i + 1) ps)), rowP 3 1 (.slice (some pa1) (partK n b) pc) (partK n b) (intsC (partsN n b))] ++ ([shsP (leafS n b (i + 1) ps) ((cs ++ [⟨.slice a5 k c5, .slice none 0 0, .slice none 0 0⟩])), blkP b4 33 #[.bool false, .bool false, .slice none 0 0, .slice none 0 0, .slice none 0 0]]))) := Lib.hid (by
                  rw [HN.out.1, HN.out.2.1, intC_snoc, rowC_snoc (by rw [HLN.out]; exact HN.out.2.2.2)]
                  exact H9)
                clear H9 E8HH6
                refine AnyK.done (by kernel_rfl) ?_ _
                refine NoPanic.normal ?_
                go_wp2_with fail
                go_meet
                exact ⟨a8, c8, a9, c9, _, rfl, rfl, Lib.hid ⟨by rw [List.length_append, HN.out.2.2.2]; rfl, HX2.out⟩⟩
            · go_simp
              have H9 := E1HH2.out.allocF 2 #[.int .i64 fk1]
              generalize w5.heap.size = bk at H9 hK9 ⊢
              generalize w5.alloc (.cells #[.int .i64 fk1] 2) = x14 at H9 hK9 ⊢
              have H9 : Heap w x14 ([blkP bk 2 #[.int .i64 fk1], rowP 77 2 (.slice a5 k c5) k (pairC qs), rowP 33 5 (.slice ar i cr) i (rowC (leafS n b i ps) (cs)), rowP 2 1 (.slice ak i ck) i (intC (leafK n b i ps)), rowP 3 1 (.slice (some pa1) (partK n b) pc) (partK n b) (intsC (partsN n b))] ++ ([shsP (leafS n b i ps) (cs), blkP b4 33 #[.bool false, .bool false, .slice none 0 0, .slice none 0 0, .slice none 0 0]])) := H9
              have E9HH3 := Lib.hid H9
              clear H9 E1HH2
              refine hK9.out _ _ (fun _ => ⟨_, E9HH3⟩) ?_
              clear hK9 K9
              try simp only [Act.put, List.getElem_toArray, List.getElem_cons_zero, List.getElem_cons_succ, List.setIfInBounds_toArray, List.set_cons_zero, List.set_cons_succ]
              refine AnyK.one (i := 7) (by kernel_rfl) rfl (fun K9 hK9 => ?_)
              go_simp
              have H9 := E9HH3.out.allocF 33 #[.bool true, .bool false, .slice a5 k c5, .slice none 0 0, .slice none 0 0]
              generalize x14.heap.size = bs at H9 hK9 ⊢
              generalize x14.alloc (.cells #[.bool true, .bool false, .slice a5 k c5, .slice none 0 0, .slice none 0 0] 33) = x7 at H9 hK9 ⊢
              have H9 : Heap w x7 ([blkP bs 33 #[.bool true, .bool false, .slice a5 k c5, .slice none 0 0, .slice none 0 0], blkP bk 2 #[.int .i64 fk1], rowP 77 2 (.slice a5 k c5) k (pairC qs), rowP 33 5 (.slice ar i cr) i (rowC (leafS n b i ps) (cs)), rowP 2 1 (.slice ak i ck) i (intC (leafK n b i ps)), rowP 3 1 (.slice (some pa1) (partK n b) pc) (partK n b) (intsC (partsN n b))] ++ ([shsP (leafS n b i ps) (cs), blkP b4 33 #[.bool false, .bool false, .slice none 0 0, .slice none 0 0, .slice none 0 0]])) := H9
              have E10HH4 := Lib.hid H9
              clear H9 E9HH3
              refine hK9.out _ _ (fun _ => ⟨_, E10HH4⟩) ?_
              clear hK9 K9
              try simp only [Act.put, List.getElem_toArray, List.getElem_cons_zero, List.getElem_cons_succ, List.setIfInBounds_toArray, List.set_cons_zero, List.set_cons_succ]
              refine AnyK.one (i := 8) (by kernel_rfl) rfl (fun K9 hK9 => ?_)
              refine step_append_typed _ (by rfl) (.tmp 27) (.tmp 34) 31 (by rfl) 33 i0 (.agg #[.bool false, .bool false, .slice none 0 0, .slice none 0 0, .slice none 0 0]) 5 80 Try.underlying31 I0.out.1 I0.out.2.1 I0.out.2.2.1 I0.out.2.2.2 rfl (by decide) (.slice ar i cr) i (rowC (leafS n b i ps) cs) (by simp [Act.eval]) (E10HH4.out.row 3 rfl) (.slice (some ⟨bs, 0, none⟩) 1 1) 1 [.bool true, .bool false, .slice a5 k c5, .slice none 0 0, .slice none 0 0] (by simp [Act.eval]) (RdV.block (cs := #[.bool true, .bool false, .slice a5 k c5, .slice none 0 0, .slice none 0 0]) (t := 33) (E10HH4.out.blk 0 rfl) rfl (by decide)) (by simp [Value.oneCell']) HL5.out.1 HL5.out.2 ?_
              intro a8 c8 w8 q8 grow8 hat8
              have H9 := E10HH4.out.growRow 3 rfl (Fr.refl _ _) q8 grow8 (fun g hg => (hat8 g hg).resolve_left (fun h => absurd h.1 (by decide)))
              clear q8 grow8 hat8
              have H9 : Heap w w8 ([blkP bs 33 #[.bool true, .bool false, .slice a5 k c5, .slice none 0 0, .slice none 0 0], blkP bk 2 #[.int .i64 fk1], rowP 77 2 (.slice a5 k c5) k (pairC qs), rowP 33 5 (.slice a8 (i + 1) c8) (i + 1) (rowC (leafS n b i ps) cs ++ [.bool true, .bool false, .slice a5 k c5, .slice none 0 0, .slice none 0 0]), rowP 2 1 (.slice ak i ck) i (intC (leafK n b i ps)), rowP 3 1 (.slice (some pa1) (partK n b) pc) (partK n b) (intsC (partsN n b))] ++ ([shsP (leafS n b i ps) (cs), blkP b4 33 #[.bool false, .bool false, .slice none 0 0, .slice none 0 0, .slice none 0 0]])) := H9
              have E11HH5 := Lib.hid H9
              clear H9 E10HH4
              refine hK9.out _ _ (fun _ => ⟨_, E11HH5⟩) ?_
              clear hK9 K9
              try simp only [Act.put, List.getElem_toArray, List.getElem_cons_zero, List.getElem_cons_succ, List.setIfInBounds_toArray, List.set_cons_zero, List.set_cons_succ]
              refine AnyK.one (i := 15) (by kernel_rfl) rfl (fun K9 hK9 => ?_)
              refine step_append_typed _ (by rfl) (.tmp 36) (.tmp 41) 22 (by rfl) 2 j0 (.int .i64 0) 1 8 Try.underlying22 J0.out.1 J0.out.2.1 J0.out.2.2.1 J0.out.2.2.2 rfl (by decide) (.slice ak i ck) i (intC (leafK n b i ps)) (by simp [Act.eval]) (E11HH5.out.row 4 rfl) (.slice (some ⟨bk, 0, none⟩) 1 1) 1 [.int .i64 fk1] (by simp [Act.eval]) (RdV.block (cs := #[.int .i64 fk1]) (t := 2) (E11HH5.out.blk 1 rfl) rfl (by decide)) (by simp [Value.oneCell']) HL.out.1 HL.out.2 ?_
              intro a9 c9 w9 q9 grow9 hat9
              have H9 := E11HH5.out.growRow 4 rfl (Fr.refl _ _) q9 grow9 (fun g hg => (hat9 g hg).resolve_left (fun h => absurd h.1 (by decide)))
              clear q9 grow9 hat9
              have H9 : Heap w w9 ([blkP bs 33 #[.bool true, .bool false, .slice a5 k c5, .slice none 0 0, .slice none 0 0], blkP bk 2 #[.int .i64 fk1], rowP 77 2 (.slice a5 k c5) k (pairC qs), rowP 33 5 (.slice a8 (i + 1) c8) (i + 1) (rowC (leafS n b i ps) cs ++ [.bool true, .bool false, .slice a5 k c5, .slice none 0 0, .slice none 0 0]), rowP 2 1 (.slice a9 (i + 1) c9) (i + 1) (intC (leafK n b i ps) ++ [.int .i64 fk1]), rowP 3 1 (.slice (some pa1) (partK n b) pc) (partK n b) (intsC (partsN n b))] ++ ([shsP (leafS n b i ps) (cs), blkP b4 33 #[.bool false, .bool false, .slice none 0 0, .slice none 0 0, .slice none 0 0]])) := H9
              have E12HH6 := Lib.hid H9
              clear H9 E11HH5
              refine hK9.out _ _ (fun _ => ⟨_, E12HH6⟩) ?_
              clear hK9 K9
              try simp only [Act.put, List.getElem_toArray, List.getElem_cons_zero, List.getElem_cons_succ, List.setIfInBounds_toArray, List.set_cons_zero, List.set_cons_succ]
              refine AnyK.phase (S' := fun _ => True) (ks' := []) (by kernel_rfl) ?_
              refine AnyK.take (i := 16) (v := ?_) rfl (by kernel_rfl) (by kernel_rfl) (by kernel_rfl) (by kernel_rfl) (fun _ _ _ h => h) (Or.inl ⟨by rfl, ?_⟩) (by exact trivial) ?_
              rotate_left
              focus
                intro w9 hSw
                try dsimp only at hSw
                go_simp
                try with_reducible rfl
              try simp only [Act.put, List.getElem_toArray, List.getElem_cons_zero, List.getElem_cons_succ, List.setIfInBounds_toArray, List.set_cons_zero, List.set_cons_succ]
              refine AnyK.take (i := 17) (v := ?_) rfl (by kernel_rfl) (by kernel_rfl) (by kernel_rfl) (by kernel_rfl) (fun _ _ _ h => h) (Or.inl ⟨by rfl, ?_⟩) (by exact trivial) ?_
              rotate_left
              focus
                intro w9 hSw
                try dsimp only at hSw
                go_simp
                try with_reducible rfl
              try simp only [Act.put, List.getElem_toArray, List.getElem_cons_zero, List.getElem_cons_succ, List.setIfInBounds_toArray, List.set_cons_zero, List.set_cons_succ]
              have H9 := E12HH6.out
              have H9 := Heap.mid (l := []) (m := [blkP bs 33 #[.bool true, .bool false, .slice a5 k c5, .slice none 0 0, .slice none 0 0]]) H9
              have H9 := Heap.mid (l := []) (m := [blkP bk 2 #[.int .i64 fk1]]) H9
              have H9 := np_in HX.out.2 (by rw [HLN.out]; exact HN.out.2.2.2) H9
              have HX2 : Hid (Heap w _ ([rowP 33 5 (.slice a8 (i + 1) c8) (i + 1) (rowC (leafS n b (i + 1) ps) ((cs ++ [⟨.slice a5 k c5, .slice none 0 0, .slice none 0 0⟩]))), rowP 2 1 (.slice a9 (i + 1) c9) (i + 1) (intC (leafK n b (i + 1) ps)), rowP 3 1 (.slice (some pa1) (partK n b) pc) (partK n b) (intsC (partsN n b))] ++ ([shsP (leafS n b (i + 1) ps) ((cs ++ [⟨.slice a5 k c5, .slice none 0 0, .slice none 0 0⟩])), blkP b4 33 #[.bool false, .bool false, .slice none 0 0, .slice none 0 0, .slice none 0 0]]))) := Lib.hid (by
                rw [HN.out.1, HN.out.2.1, intC_snoc, rowC_snoc (by rw [HLN.out]; exact HN.out.2.2.2)]
                exact H9)
              clear H9 E12HH6
              refine AnyK.done (by kernel_rfl) ?_ _
              refine NoPanic.normal ?_
              go_wp2_with fail
              go_meet
              exact ⟨a8, c8, a9, c9, _, rfl, rfl, Lib.hid ⟨by rw [List.length_append, HN.out.2.2.2]; rfl, HX2.out⟩⟩
          · go_simp
            have H9 := E0HH1.out.allocF 2 #[.int .i64 fk1]
            generalize x1.heap.size = bk at H9 hK9 ⊢
            generalize x1.alloc (.cells #[.int .i64 fk1] 2) = x14 at H9 hK9 ⊢
            have H9 : Heap w x14 ([blkP bk 2 #[.int .i64 fk1], rowP 77 2 (.slice (some ⟨bp, 0, none⟩) 0 0) 0 [], rowP 33 5 (.slice ar i cr) i (rowC (leafS n b i ps) (cs)), rowP 2 1 (.slice ak i ck) i (intC (leafK n b i ps)), rowP 3 1 (.slice (some pa1) (partK n b) pc) (partK n b) (intsC (partsN n b))] ++ ([shsP (leafS n b i ps) (cs), blkP b4 33 #[.bool false, .bool false, .slice none 0 0, .slice none 0 0, .slice none 0 0]])) := H9
            have E13HH2 := Lib.hid H9
            clear H9 E0HH1
            refine hK9.out _ _ (fun _ => ⟨_, E13HH2⟩) ?_
            clear hK9 K9
            try simp only [Act.put, List.getElem_toArray, List.getElem_cons_zero, List.getElem_cons_succ, List.setIfInBounds_toArray, List.set_cons_zero, List.set_cons_succ]
            refine AnyK.one (i := 5) (by kernel_rfl) rfl (fun K9 hK9 => ?_)
            refine step_append_typed _ (by rfl) (.tmp 28) (.tmp 31) 30 (by rfl) 77 p0 (.agg #[.int .i64 0, .int .i64 0]) 2 16 Try.underlying30 P0.out.1 P0.out.2.1 P0.out.2.2.1 P0.out.2.2.2 rfl (by decide) (.slice (some ⟨bp, 0, none⟩) 0 0) 0 [] (by simp [Act.eval]) (E13HH2.out.row 1 rfl) (.slice (some g1) k c1) k (pairC qs) (by simp [Act.eval]) ((HV.out _ _ E13HH2.out).1) (pairC_one qs) HLK.out.1 HLK.out.2 ?_
            intro a5 c5 w5 q5 grow5 hat5
            have H9 := E13HH2.out.appRow 1 (m := k) rfl (Fr.refl _ _) q5 grow5 hat5
            rw [Nat.zero_add, List.nil_append] at H9
            rw [Nat.zero_add]
            clear q5 grow5 hat5
            have H9 : Heap w w5 ([blkP bk 2 #[.int .i64 fk1], rowP 77 2 (.slice a5 k c5) k (pairC qs), rowP 33 5 (.slice ar i cr) i (rowC (leafS n b i ps) (cs)), rowP 2 1 (.slice ak i ck) i (intC (leafK n b i ps)), rowP 3 1 (.slice (some pa1) (partK n b) pc) (partK n b) (intsC (partsN n b))] ++ ([shsP (leafS n b i ps) (cs), blkP b4 33 #[.bool false, .bool false, .slice none 0 0, .slice none 0 0, .slice none 0 0]])) := H9
            have E14HH3 := Lib.hid H9
            clear H9 E13HH2
            refine hK9.out _ _ (fun _ => ⟨_, E14HH3⟩) ?_
            clear hK9 K9
            try simp only [Act.put, List.getElem_toArray, List.getElem_cons_zero, List.getElem_cons_succ, List.setIfInBounds_toArray, List.set_cons_zero, List.set_cons_succ]
            refine AnyK.takeB (i := 6) (v := ?_) rfl (by kernel_rfl) (by kernel_rfl) (by kernel_rfl) (by kernel_rfl) (fun _ _ _ h => h) (Or.inl ⟨by kernel_rfl, ?_⟩) (by exact ⟨_, E14HH3⟩) ?_
            rotate_left
            focus
              intro w9 hSw
              have hSw := HF.out w9 hSw
              go_simp
              try with_reducible rfl
            try simp only [Act.put, List.getElem_toArray, List.getElem_cons_zero, List.getElem_cons_succ, List.setIfInBounds_toArray, List.set_cons_zero, List.set_cons_succ]
            refine AnyK.one (i := 7) (by kernel_rfl) rfl (fun K9 hK9 => ?_)
            go_simp
            have H9 := E14HH3.out.allocF 33 #[.bool true, .bool false, .slice a5 k c5, .slice none 0 0, .slice none 0 0]
            generalize w5.heap.size = bs at H9 hK9 ⊢
            generalize w5.alloc (.cells #[.bool true, .bool false, .slice a5 k c5, .slice none 0 0, .slice none 0 0] 33) = x7 at H9 hK9 ⊢
            have H9 : Heap w x7 ([blkP bs 33 #[.bool true, .bool false, .slice a5 k c5, .slice none 0 0, .slice none 0 0], blkP bk 2 #[.int .i64 fk1], rowP 77 2 (.slice a5 k c5) k (pairC qs), rowP 33 5 (.slice ar i cr) i (rowC (leafS n b i ps) (cs)), rowP 2 1 (.slice ak i ck) i (intC (leafK n b i ps)), rowP 3 1 (.slice (some pa1) (partK n b) pc) (partK n b) (intsC (partsN n b))] ++ ([shsP (leafS n b i ps) (cs), blkP b4 33 #[.bool false, .bool false, .slice none 0 0, .slice none 0 0, .slice none 0 0]])) := H9
            have E15HH4 := Lib.hid H9
            clear H9 E14HH3
            refine hK9.out _ _ (fun _ => ⟨_, E15HH4⟩) ?_
            clear hK9 K9
            try simp only [Act.put, List.getElem_toArray, List.getElem_cons_zero, List.getElem_cons_succ, List.setIfInBounds_toArray, List.set_cons_zero, List.set_cons_succ]
            refine AnyK.one (i := 8) (by kernel_rfl) rfl (fun K9 hK9 => ?_)
            refine step_append_typed _ (by rfl) (.tmp 27) (.tmp 34) 31 (by rfl) 33 i0 (.agg #[.bool false, .bool false, .slice none 0 0, .slice none 0 0, .slice none 0 0]) 5 80 Try.underlying31 I0.out.1 I0.out.2.1 I0.out.2.2.1 I0.out.2.2.2 rfl (by decide) (.slice ar i cr) i (rowC (leafS n b i ps) cs) (by simp [Act.eval]) (E15HH4.out.row 3 rfl) (.slice (some ⟨bs, 0, none⟩) 1 1) 1 [.bool true, .bool false, .slice a5 k c5, .slice none 0 0, .slice none 0 0] (by simp [Act.eval]) (RdV.block (cs := #[.bool true, .bool false, .slice a5 k c5, .slice none 0 0, .slice none 0 0]) (t := 33) (E15HH4.out.blk 0 rfl) rfl (by decide)) (by simp [Value.oneCell']) HL5.out.1 HL5.out.2 ?_
            intro a8 c8 w8 q8 grow8 hat8
            have H9 := E15HH4.out.growRow 3 rfl (Fr.refl _ _) q8 grow8 (fun g hg => (hat8 g hg).resolve_left (fun h => absurd h.1 (by decide)))
            clear q8 grow8 hat8
            have H9 : Heap w w8 ([blkP bs 33 #[.bool true, .bool false, .slice a5 k c5, .slice none 0 0, .slice none 0 0], blkP bk 2 #[.int .i64 fk1], rowP 77 2 (.slice a5 k c5) k (pairC qs), rowP 33 5 (.slice a8 (i + 1) c8) (i + 1) (rowC (leafS n b i ps) cs ++ [.bool true, .bool false, .slice a5 k c5, .slice none 0 0, .slice none 0 0]), rowP 2 1 (.slice ak i ck) i (intC (leafK n b i ps)), rowP 3 1 (.slice (some pa1) (partK n b) pc) (partK n b) (intsC (partsN n b))] ++ ([shsP (leafS n b i ps) (cs), blkP b4 33 #[.bool false, .bool false, .slice none 0 0, .slice none 0 0, .slice none 0 0]])) := H9
            have E16HH5 := Lib.hid H9
            clear H9 E15HH4
            refine hK9.out _ _ (fun _ => ⟨_, E16HH5⟩) ?_
            clear hK9 K9
            try simp only [Act.put, List.getElem_toArray, List.getElem_cons_zero, List.getElem_cons_succ, List.setIfInBounds_toArray, List.set_cons_zero, List.set_cons_succ]
            refine AnyK.one (i := 15) (by kernel_rfl) rfl (fun K9 hK9 => ?_)
            refine step_append_typed _ (by rfl) (.tmp 36) (.tmp 41) 22 (by rfl) 2 j0 (.int .i64 0) 1 8 Try.underlying22 J0.out.1 J0.out.2.1 J0.out.2.2.1 J0.out.2.2.2 rfl (by decide) (.slice ak i ck) i (intC (leafK n b i ps)) (by simp [Act.eval]) (E16HH5.out.row 4 rfl) (.slice (some ⟨bk, 0, none⟩) 1 1) 1 [.int .i64 fk1] (by simp [Act.eval]) (RdV.block (cs := #[.int .i64 fk1]) (t := 2) (E16HH5.out.blk 1 rfl) rfl (by decide)) (by simp [Value.oneCell']) HL.out.1 HL.out.2 ?_
            intro a9 c9 w9 q9 grow9 hat9
            have H9 := E16HH5.out.growRow 4 rfl (Fr.refl _ _) q9 grow9 (fun g hg => (hat9 g hg).resolve_left (fun h => absurd h.1 (by decide)))
            clear q9 grow9 hat9
            have H9 : Heap w w9 ([blkP bs 33 #[.bool true, .bool false, .slice a5 k c5, .slice none 0 0, .slice none 0 0], blkP bk 2 #[.int .i64 fk1], rowP 77 2 (.slice a5 k c5) k (pairC qs), rowP 33 5 (.slice a8 (i + 1) c8) (i + 1) (rowC (leafS n b i ps) cs ++ [.bool true, .bool false, .slice a5 k c5, .slice none 0 0, .slice none 0 0]), rowP 2 1 (.slice a9 (i + 1) c9) (i + 1) (intC (leafK n b i ps) ++ [.int .i64 fk1]), rowP 3 1 (.slice (some pa1) (partK n b) pc) (partK n b) (intsC (partsN n b))] ++ ([shsP (leafS n b i ps) (cs), blkP b4 33 #[.bool false, .bool false, .slice none 0 0, .slice none 0 0, .slice none 0 0]])) := H9
            have E17HH6 := Lib.hid H9
            clear H9 E16HH5
            refine hK9.out _ _ (fun _ => ⟨_, E17HH6⟩) ?_
            clear hK9 K9
            try simp only [Act.put, List.getElem_toArray, List.getElem_cons_zero, List.getElem_cons_succ, List.setIfInBounds_toArray, List.set_cons_zero, List.set_cons_succ]
            refine AnyK.phase (S' := fun _ => True) (ks' := []) (by kernel_rfl) ?_
            refine AnyK.take (i := 16) (v := ?_) rfl (by kernel_rfl) (by kernel_rfl) (by kernel_rfl) (by kernel_rfl) (fun _ _ _ h => h) (Or.inl ⟨by rfl, ?_⟩) (by exact trivial) ?_
            rotate_left
            focus
              intro w9 hSw
              try dsimp only at hSw
              go_simp
              try with_reducible rfl
            try simp only [Act.put, List.getElem_toArray, List.getElem_cons_zero, List.getElem_cons_succ, List.setIfInBounds_toArray, List.set_cons_zero, List.set_cons_succ]
            refine AnyK.take (i := 17) (v := ?_) rfl (by kernel_rfl) (by kernel_rfl) (by kernel_rfl) (by kernel_rfl) (fun _ _ _ h => h) (Or.inl ⟨by rfl, ?_⟩) (by exact trivial) ?_
            rotate_left
            focus
              intro w9 hSw
              try dsimp only at hSw
              go_simp
              try with_reducible rfl
            try simp only [Act.put, List.getElem_toArray, List.getElem_cons_zero, List.getElem_cons_succ, List.setIfInBounds_toArray, List.set_cons_zero, List.set_cons_succ]
            have H9 := E17HH6.out
            have H9 := Heap.mid (l := []) (m := [blkP bs 33 #[.bool true, .bool false, .slice a5 k c5, .slice none 0 0, .slice none 0 0]]) H9
            have H9 := Heap.mid (l := []) (m := [blkP bk 2 #[.int .i64 fk1]]) H9
            have H9 := np_in HX.out.2 (by rw [HLN.out]; exact HN.out.2.2.2) H9
            have HX2 : Hid (Heap w _ ([rowP 33 5 (.slice a8 (i + 1) c8) (i + 1) (rowC (leafS n b (i + 1) ps) ((cs ++ [⟨.slice a5 k c5, .slice none 0 0, .slice none 0 0⟩]))), rowP 2 1 (.slice a9 (i + 1) c9) (i + 1) (intC (leafK n b (i + 1) ps)), rowP 3 1 (.slice (some pa1) (partK n b) pc) (partK n b) (intsC (partsN n b))] ++ ([shsP (leafS n b (i + 1) ps) ((cs ++ [⟨.slice a5 k c5, .slice none 0 0, .slice none 0 0⟩])), blkP b4 33 #[.bool false, .bool false, .slice none 0 0, .slice none 0 0, .slice none 0 0]]))) := Lib.hid (by
              rw [HN.out.1, HN.out.2.1, intC_snoc, rowC_snoc (by rw [HLN.out]; exact HN.out.2.2.2)]
              exact H9)
            clear H9 E17HH6
            refine AnyK.done (by kernel_rfl) ?_ _
            refine NoPanic.normal ?_
            go_wp2_with fail
            go_meet
            exact ⟨a8, c8, a9, c9, _, rfl, rfl, Lib.hid ⟨by rw [List.length_append, HN.out.2.2.2]; rfl, HX2.out⟩⟩
        · go_simp
          have H9 := HZ.out.allocF 2 #[.int .i64 fk1]
          generalize z0.heap.size = bk at H9 hK9 ⊢
          generalize z0.alloc (.cells #[.int .i64 fk1] 2) = x14 at H9 hK9 ⊢
          have H9 : Heap w x14 ([blkP bk 2 #[.int .i64 fk1], rowP 33 5 (.slice ar i cr) i (rowC (leafS n b i ps) (cs)), rowP 2 1 (.slice ak i ck) i (intC (leafK n b i ps)), rowP 3 1 (.slice (some pa1) (partK n b) pc) (partK n b) (intsC (partsN n b))] ++ ([shsP (leafS n b i ps) (cs), blkP b4 33 #[.bool false, .bool false, .slice none 0 0, .slice none 0 0, .slice none 0 0]])) := H9
          have E18HH1 := Lib.hid H9
          clear H9 HZ
          refine hK9.out _ _ (fun _ => ⟨_, E18HH1⟩) ?_
          clear hK9 K9
          try simp only [Act.put, List.getElem_toArray, List.getElem_cons_zero, List.getElem_cons_succ, List.setIfInBounds_toArray, List.set_cons_zero, List.set_cons_succ]
          refine AnyK.one (i := 1) (by kernel_rfl) rfl (fun K9 hK9 => ?_)
          go_simp
          have H9 := E18HH1.out.row0F 77 2
          generalize x14.heap.size = bp at H9 hK9 ⊢
          generalize x14.alloc (.cells #[] 77) = x1 at H9 hK9 ⊢
          have H9 : Heap w x1 ([rowP 77 2 (.slice (some ⟨bp, 0, none⟩) 0 0) 0 [], blkP bk 2 #[.int .i64 fk1], rowP 33 5 (.slice ar i cr) i (rowC (leafS n b i ps) (cs)), rowP 2 1 (.slice ak i ck) i (intC (leafK n b i ps)), rowP 3 1 (.slice (some pa1) (partK n b) pc) (partK n b) (intsC (partsN n b))] ++ ([shsP (leafS n b i ps) (cs), blkP b4 33 #[.bool false, .bool false, .slice none 0 0, .slice none 0 0, .slice none 0 0]])) := H9
          have E19HH2 := Lib.hid H9
          clear H9 E18HH1
          refine hK9.out _ _ (fun _ => ⟨_, E19HH2⟩) ?_
          clear hK9 K9
          try simp only [Act.put, List.getElem_toArray, List.getElem_cons_zero, List.getElem_cons_succ, List.setIfInBounds_toArray, List.set_cons_zero, List.set_cons_succ]
          refine AnyK.one (i := 5) (by kernel_rfl) rfl (fun K9 hK9 => ?_)
          refine step_append_typed _ (by rfl) (.tmp 28) (.tmp 31) 30 (by rfl) 77 p0 (.agg #[.int .i64 0, .int .i64 0]) 2 16 Try.underlying30 P0.out.1 P0.out.2.1 P0.out.2.2.1 P0.out.2.2.2 rfl (by decide) (.slice (some ⟨bp, 0, none⟩) 0 0) 0 [] (by simp [Act.eval]) (E19HH2.out.row 0 rfl) (.slice (some g1) k c1) k (pairC qs) (by simp [Act.eval]) ((HV.out _ _ E19HH2.out).1) (pairC_one qs) HLK.out.1 HLK.out.2 ?_
          intro a5 c5 w5 q5 grow5 hat5
          have H9 := E19HH2.out.appRow 0 (m := k) rfl (Fr.refl _ _) q5 grow5 hat5
          rw [Nat.zero_add, List.nil_append] at H9
          rw [Nat.zero_add]
          clear q5 grow5 hat5
          have H9 : Heap w w5 ([rowP 77 2 (.slice a5 k c5) k (pairC qs), blkP bk 2 #[.int .i64 fk1], rowP 33 5 (.slice ar i cr) i (rowC (leafS n b i ps) (cs)), rowP 2 1 (.slice ak i ck) i (intC (leafK n b i ps)), rowP 3 1 (.slice (some pa1) (partK n b) pc) (partK n b) (intsC (partsN n b))] ++ ([shsP (leafS n b i ps) (cs), blkP b4 33 #[.bool false, .bool false, .slice none 0 0, .slice none 0 0, .slice none 0 0]])) := H9
          have E20HH3 := Lib.hid H9
          clear H9 E19HH2
          refine hK9.out _ _ (fun _ => ⟨_, E20HH3⟩) ?_
          clear hK9 K9
          try simp only [Act.put, List.getElem_toArray, List.getElem_cons_zero, List.getElem_cons_succ, List.setIfInBounds_toArray, List.set_cons_zero, List.set_cons_succ]
          refine AnyK.takeB (i := 6) (v := ?_) rfl (by kernel_rfl) (by kernel_rfl) (by kernel_rfl) (by kernel_rfl) (fun _ _ _ h => h) (Or.inl ⟨by kernel_rfl, ?_⟩) (by exact ⟨_, E20HH3⟩) ?_
          rotate_left
          focus
            intro w9 hSw
            have hSw := HF.out w9 hSw
            go_simp
            try with_reducible rfl
          try simp only [Act.put, List.getElem_toArray, List.getElem_cons_zero, List.getElem_cons_succ, List.setIfInBounds_toArray, List.set_cons_zero, List.set_cons_succ]
          refine AnyK.one (i := 7) (by kernel_rfl) rfl (fun K9 hK9 => ?_)
          go_simp
          have H9 := E20HH3.out.allocF 33 #[.bool true, .bool false, .slice a5 k c5, .slice none 0 0, .slice none 0 0]
          generalize w5.heap.size = bs at H9 hK9 ⊢
          generalize w5.alloc (.cells #[.bool true, .bool false, .slice a5 k c5, .slice none 0 0, .slice none 0 0] 33) = x7 at H9 hK9 ⊢
          have H9 : Heap w x7 ([blkP bs 33 #[.bool true, .bool false, .slice a5 k c5, .slice none 0 0, .slice none 0 0], rowP 77 2 (.slice a5 k c5) k (pairC qs), blkP bk 2 #[.int .i64 fk1], rowP 33 5 (.slice ar i cr) i (rowC (leafS n b i ps) (cs)), rowP 2 1 (.slice ak i ck) i (intC (leafK n b i ps)), rowP 3 1 (.slice (some pa1) (partK n b) pc) (partK n b) (intsC (partsN n b))] ++ ([shsP (leafS n b i ps) (cs), blkP b4 33 #[.bool false, .bool false, .slice none 0 0, .slice none 0 0, .slice none 0 0]])) := H9
          have E21HH4 := Lib.hid H9
          clear H9 E20HH3
          refine hK9.out _ _ (fun _ => ⟨_, E21HH4⟩) ?_
          clear hK9 K9
          try simp only [Act.put, List.getElem_toArray, List.getElem_cons_zero, List.getElem_cons_succ, List.setIfInBounds_toArray, List.set_cons_zero, List.set_cons_succ]
          refine AnyK.one (i := 8) (by kernel_rfl) rfl (fun K9 hK9 => ?_)
          refine step_append_typed _ (by rfl) (.tmp 27) (.tmp 34) 31 (by rfl) 33 i0 (.agg #[.bool false, .bool false, .slice none 0 0, .slice none 0 0, .slice none 0 0]) 5 80 Try.underlying31 I0.out.1 I0.out.2.1 I0.out.2.2.1 I0.out.2.2.2 rfl (by decide) (.slice ar i cr) i (rowC (leafS n b i ps) cs) (by simp [Act.eval]) (E21HH4.out.row 3 rfl) (.slice (some ⟨bs, 0, none⟩) 1 1) 1 [.bool true, .bool false, .slice a5 k c5, .slice none 0 0, .slice none 0 0] (by simp [Act.eval]) (RdV.block (cs := #[.bool true, .bool false, .slice a5 k c5, .slice none 0 0, .slice none 0 0]) (t := 33) (E21HH4.out.blk 0 rfl) rfl (by decide)) (by simp [Value.oneCell']) HL5.out.1 HL5.out.2 ?_
          intro a8 c8 w8 q8 grow8 hat8
          have H9 := E21HH4.out.growRow 3 rfl (Fr.refl _ _) q8 grow8 (fun g hg => (hat8 g hg).resolve_left (fun h => absurd h.1 (by decide)))
          clear q8 grow8 hat8
          have H9 : Heap w w8 ([blkP bs 33 #[.bool true, .bool false, .slice a5 k c5, .slice none 0 0, .slice none 0 0], rowP 77 2 (.slice a5 k c5) k (pairC qs), blkP bk 2 #[.int .i64 fk1], rowP 33 5 (.slice a8 (i + 1) c8) (i + 1) (rowC (leafS n b i ps) cs ++ [.bool true, .bool false, .slice a5 k c5, .slice none 0 0, .slice none 0 0]), rowP 2 1 (.slice ak i ck) i (intC (leafK n b i ps)), rowP 3 1 (.slice (some pa1) (partK n b) pc) (partK n b) (intsC (partsN n b))] ++ ([shsP (leafS n b i ps) (cs), blkP b4 33 #[.bool false, .bool false, .slice none 0 0, .slice none 0 0, .slice none 0 0]])) := H9
          have E22HH5 := Lib.hid H9
          clear H9 E21HH4
          refine hK9.out _ _ (fun _ => ⟨_, E22HH5⟩) ?_
          clear hK9 K9
          try simp only [Act.put, List.getElem_toArray, List.getElem_cons_zero, List.getElem_cons_succ, List.setIfInBounds_toArray, List.set_cons_zero, List.set_cons_succ]
          refine AnyK.one (i := 15) (by kernel_rfl) rfl (fun K9 hK9 => ?_)
          refine step_append_typed _ (by rfl) (.tmp 36) (.tmp 41) 22 (by rfl) 2 j0 (.int .i64 0) 1 8 Try.underlying22 J0.out.1 J0.out.2.1 J0.out.2.2.1 J0.out.2.2.2 rfl (by decide) (.slice ak i ck) i (intC (leafK n b i ps)) (by simp [Act.eval]) (E22HH5.out.row 4 rfl) (.slice (some ⟨bk, 0, none⟩) 1 1) 1 [.int .i64 fk1] (by simp [Act.eval]) (RdV.block (cs := #[.int .i64 fk1]) (t := 2) (E22HH5.out.blk 2 rfl) rfl (by decide)) (by simp [Value.oneCell']) HL.out.1 HL.out.2 ?_
          intro a9 c9 w9 q9 grow9 hat9
          have H9 := E22HH5.out.growRow 4 rfl (Fr.refl _ _) q9 grow9 (fun g hg => (hat9 g hg).resolve_left (fun h => absurd h.1 (by decide)))
          clear q9 grow9 hat9
          have H9 : Heap w w9 ([blkP bs 33 #[.bool true, .bool false, .slice a5 k c5, .slice none 0 0, .slice none 0 0], rowP 77 2 (.slice a5 k c5) k (pairC qs), blkP bk 2 #[.int .i64 fk1], rowP 33 5 (.slice a8 (i + 1) c8) (i + 1) (rowC (leafS n b i ps) cs ++ [.bool true, .bool false, .slice a5 k c5, .slice none 0 0, .slice none 0 0]), rowP 2 1 (.slice a9 (i + 1) c9) (i + 1) (intC (leafK n b i ps) ++ [.int .i64 fk1]), rowP 3 1 (.slice (some pa1) (partK n b) pc) (partK n b) (intsC (partsN n b))] ++ ([shsP (leafS n b i ps) (cs), blkP b4 33 #[.bool false, .bool false, .slice none 0 0, .slice none 0 0, .slice none 0 0]])) := H9
          have E23HH6 := Lib.hid H9
          clear H9 E22HH5
          refine hK9.out _ _ (fun _ => ⟨_, E23HH6⟩) ?_
          clear hK9 K9
          try simp only [Act.put, List.getElem_toArray, List.getElem_cons_zero, List.getElem_cons_succ, List.setIfInBounds_toArray, List.set_cons_zero, List.set_cons_succ]
          refine AnyK.phase (S' := fun _ => True) (ks' := []) (by kernel_rfl) ?_
          refine AnyK.take (i := 16) (v := ?_) rfl (by kernel_rfl) (by kernel_rfl) (by kernel_rfl) (by kernel_rfl) (fun _ _ _ h => h) (Or.inl ⟨by rfl, ?_⟩) (by exact trivial) ?_
          rotate_left
          focus
            intro w9 hSw
            try dsimp only at hSw
            go_simp
            try with_reducible rfl
          try simp only [Act.put, List.getElem_toArray, List.getElem_cons_zero, List.getElem_cons_succ, List.setIfInBounds_toArray, List.set_cons_zero, List.set_cons_succ]
          refine AnyK.take (i := 17) (v := ?_) rfl (by kernel_rfl) (by kernel_rfl) (by kernel_rfl) (by kernel_rfl) (fun _ _ _ h => h) (Or.inl ⟨by rfl, ?_⟩) (by exact trivial) ?_
          rotate_left
          focus
            intro w9 hSw
            try dsimp only at hSw
            go_simp
            try with_reducible rfl
          try simp only [Act.put, List.getElem_toArray, List.getElem_cons_zero, List.getElem_cons_succ, List.setIfInBounds_toArray, List.set_cons_zero, List.set_cons_succ]
          have H9 := E23HH6.out
          have H9 := Heap.mid (l := []) (m := [blkP bs 33 #[.bool true, .bool false, .slice a5 k c5, .slice none 0 0, .slice none 0 0]]) H9
          have H9 := Heap.mid (l := [rowP 77 2 (.slice a5 k c5) k (pairC qs)]) (m := [blkP bk 2 #[.int .i64 fk1]]) H9
          have H9 := np_in HX.out.2 (by rw [HLN.out]; exact HN.out.2.2.2) H9
          have HX2 : Hid (Heap w _ ([rowP 33 5 (.slice a8 (i + 1) c8) (i + 1) (rowC (leafS n b (i + 1) ps) ((cs ++ [⟨.slice a5 k c5, .slice none 0 0, .slice none 0 0⟩]))), rowP 2 1 (.slice a9 (i + 1) c9) (i + 1) (intC (leafK n b (i + 1) ps)), rowP 3 1 (.slice (some pa1) (partK n b) pc) (partK n b) (intsC (partsN n b))] ++ ([shsP (leafS n b (i + 1) ps) ((cs ++ [⟨.slice a5 k c5, .slice none 0 0, .slice none 0 0⟩])), blkP b4 33 #[.bool false, .bool false, .slice none 0 0, .slice none 0 0, .slice none 0 0]]))) := Lib.hid (by
            rw [HN.out.1, HN.out.2.1, intC_snoc, rowC_snoc (by rw [HLN.out]; exact HN.out.2.2.2)]
            exact H9)
          clear H9 E23HH6
          refine AnyK.done (by kernel_rfl) ?_ _
          refine NoPanic.normal ?_
          go_wp2_with fail
          go_meet
          exact ⟨a8, c8, a9, c9, _, rfl, rfl, Lib.hid ⟨by rw [List.length_append, HN.out.2.2.2]; rfl, HX2.out⟩⟩
      case rest =>
      obtain ⟨ar2, cr2, ak2, ck2, cs2, rfl, rfl, HH7⟩ := hcut
      clear HH HF y1
      rename World => w7
      have HRX : Hid ((∀ z l, Heap w z l → RdV z (.slice vr (n - sumP n b (i + 1)) (c1 - k)) (n - sumP n b (i + 1)) 2 (pairC (ps.drop (sumP n b (i + 1)))))) := Lib.hid (by
        rw [HN.out.2.2.1, show n - (m + k) = lm - k by have := HM9.out.2.2.1; omega]
        exact fun z l hz => (HV.out z l hz).2)
      have HSX : Hid (n - sumP n b (i + 1) = lm - k) := Lib.hid (by rw [HN.out.2.2.1]; have := HM9.out.2.2.1; omega)
      rename ∀ (a : Act) (w : World), Code.wp Try.prog _ _ a w → _ => hK8
      refine hK8 _ _ ?_
      clear hK8
      go_upto_region 10 with fail
      rw [HE.out]
      go_wp2_with fail
      rw [← HSX.out]
      exact ⟨⟨i + 1, vr, c1 - k, ar2, cr2, ak2, ck2, cs2, by go_num, by omega, rfl, rfl, rfl, HRX, HH7⟩, by simp [intOf]; omega⟩
    · obtain rfl : i = partK n b := by omega
      have HH2 : Hid (Heap w wr ([rowP 33 5 (.slice ar (partK n b) cr) (partK n b) (rowC (leafShs (partsN n b) ps) (cs)), rowP 2 1 (.slice ak (partK n b) ck) (partK n b) (intC (leafKeys (partsN n b) ps)), shsP (leafShs (partsN n b) ps) (cs), blkP b4 33 #[.bool false, .bool false, .slice none 0 0, .slice none 0 0, .slice none 0 0]])) := Lib.hid (by
        have h := HQ.out.2
        rw [leafK_all, show leafS n b (partK n b) ps = leafShs (partsN n b) ps by unfold leafS; rw [List.take_of_length_le (by rw [partsN_len]; exact Nat.le_refl _)]] at h
        exact Heap.mid (l := [rowP 33 5 (.slice ar (partK n b) cr) (partK n b) (rowC (leafShs (partsN n b) ps) (cs)), rowP 2 1 (.slice ak (partK n b) ck) (partK n b) (intC (leafKeys (partsN n b) ps))]) (m := [rowP 3 1 (.slice pa (partK n b) pc) (partK n b) (intsC (partsN n b))]) h)
      have hE : evenSh b ps = (evenUp b n (leafShs (partsN n b) ps) (leafKeys (partsN n b) ps)).getD 0 nilSh := by
        unfold evenSh
        rw [if_neg (fun e => by have := HPL.out; rw [e] at this; simp at this; omega), HPL.out]
      obtain ⟨FIN, hFIN⟩ : ∃ x, evenUp b n (leafShs (partsN n b) ps) (leafKeys (partsN n b) ps) = x := ⟨_, rfl⟩
      rw [hFIN] at hE
      have HFIN := Lib.hid (And.intro hFIN hE)
      have HC1 := Lib.hid HQ.out.1
      clear hE
      clear HQ HRD hFIN
      go_wp2_with fail
      go_loopw [5, 6] (fun s5 s6 wr => ∃ (f : Nat) (row : List Sh) (fs : List Int) (cs : List Sv) (ar : Option Addr) (cr : Nat) (ak : Option Addr) (ck : Nat), s5 = .slice ar row.length cr ∧ s6 = .slice ak row.length ck ∧ 1 ≤ row.length ∧ row.length ≤ f + 1 ∧ row.length ≤ 10000 ∧ Hid (evenUp b f row fs = FIN ∧ fs.length = row.length ∧ cs.length = row.length ∧ Heap w wr ([rowP 33 5 (.slice ar row.length cr) row.length (rowC (row) (cs)), rowP 2 1 (.slice ak row.length ck) row.length (intC (fs)), shsP (row) (cs), blkP b4 33 #[.bool false, .bool false, .slice none 0 0, .slice none 0 0, .slice none 0 0]]))) (fun s5 _ _ => lenV s5)
      case atStart =>
        refine ⟨n, leafShs (partsN n b) ps, leafKeys (partsN n b) ps, cs, ar, cr, ak, ck, by rw [leafShs_len, partsN_len], by rw [leafShs_len, partsN_len], by rw [leafShs_len, partsN_len]; exact hk1, by rw [leafShs_len, partsN_len]; omega, by rw [leafShs_len, partsN_len]; omega, Lib.hid ⟨HFIN.out.1, by rw [leafShs_len, leafKeys_len], by rw [leafShs_len, partsN_len]; exact HC1.out, ?_⟩⟩
        rw [leafShs_len, partsN_len]
        exact HH2.out
      case round =>
      clear HH2 HC1
      obtain ⟨f, row, fs, cs, ar, cr, ak, ck, rfl, rfl, hr1, hrf, hr2, HQ⟩ := hrel
      obtain ⟨r, hr⟩ : ∃ r, row.length = r := ⟨_, rfl⟩
      by_cases hlt : 1 < row.length
      · obtain ⟨f', rfl⟩ : ∃ f', f = f' + 1 := ⟨f - 1, by omega⟩
        obtain ⟨q1, q2, q3, H0⟩ := HQ.out
        have q1 : evenUp b f' (upShs (partsN row.length b) row fs) (upKeys (partsN row.length b) fs) = FIN := by
          rw [← q1, evenUp, if_neg (by omega)]
        have hp1 := partK_less b1 hlt
        have hp2 := partK_pos row.length b
        have CP := Lib.hid (Parts11_h wr row.length b ⟨by omega, by omega⟩ ⟨by omega, b2⟩)
        rw [hr] at CP hp1 hp2 hr1 hrf hr2 hlt q1 q2 q3 H0 ⊢
        have hri : (1 : Int) < (r : Int) := by omega
        have HR9 := Lib.hid hr
        have HI := Lib.hid (And.intro q1 (And.intro q2 q3))
        have H0' := Lib.hid H0
        clear HQ H0 q1 q2 q3 hr
        go_wp2_with fail
        refine CP.out.mono ?_
        rintro e w5 ⟨pb, pc2, rfl, H5⟩
        have HH := Lib.hid (((H0'.out.join H5).lv_start.rowNilF 2 1).rowNilF 33 5)
        clear CP H5 H0'
        go_wp2_with fail
        obtain ⟨K, hK⟩ : ∃ x, partK r b = x := ⟨_, rfl⟩
        have HK9 := Lib.hid hK
        rw [hK] at HH hp1 hp2 ⊢
        clear hK
        go_loopw [9, 10, 11, 55] (fun s9 s10 s11 q wr => ∃ (j : Nat) (m : Nat) (au : Option Addr) (cu : Nat) (ag : Option Addr) (cg : Nat) (cv : List Sv), q = .int .i64 (j : Nat) ∧ j ≤ K ∧ s9 = .slice au j cu ∧ s10 = .slice ag j cg ∧ s11 = .int .i64 (m : Nat) ∧ m ≤ r ∧ Hid (m = sumP r b j ∧ cv.length = j ∧ Heap w wr ([rowP 33 5 (.slice au j cu) j (rowC (upShs ((partsN r b).take j) row fs) (cv)), rowP 2 1 (.slice ag j cg) j (intC (upKeys ((partsN r b).take j) fs)), rowP 3 1 (.slice pb K pc2) K (intsC (partsN r b))] ++ ([fosP row cs (upShs ((partsN r b).take j) row fs) (cv), rowP 33 5 (.slice ar r cr) r (rowC (row) (cs)), rowP 2 1 (.slice ak r ck) r (intC (fs)), blkP b4 33 #[.bool false, .bool false, .slice none 0 0, .slice none 0 0, .slice none 0 0]])))) (fun _ _ _ q _ => K - (intOf q).toNat)
        case atStart => exact ⟨0, 0, none, 0, none, 0, [], rfl, Nat.zero_le _, rfl, rfl, rfl, Nat.zero_le _, Lib.hid ⟨rfl, rfl, HH.out⟩⟩
        case round =>
        clear HH
        obtain ⟨j, m, au, cu, ag, cg, cv, rfl, hj, rfl, rfl, rfl, hmr, HQ⟩ := hrel
        by_cases hlj : j < K
        · have HLJ := Lib.hid hlj
          obtain ⟨hm, hcv, H0⟩ := HQ.out
          have hjk : j < partK r b := by rw [HK9.out]; exact hlj
          have hm1 := sumP_le r b (j + 1)
          rw [sumP_next hjk] at hm1
          have hp1 : 1 ≤ partAt r b j := partAt_pos (by omega) (by omega)
          obtain ⟨k, hk⟩ : ∃ k, partAt r b j = k := ⟨_, rfl⟩
          rw [← hm, hk] at hm1
          rw [hk] at hp1
          have QP := (H0.row 2 (t := 3) (sz := 1) (n := K) (v := .slice pb K pc2) (us := intsC (partsN r b)) rfl).rdv
          obtain ⟨pa1, rfl, _, hatp⟩ := QP.at (by omega)
          have y1 : World.cell? _ (pa1.add j) = some (.int .i64 (k : Int)) := hatp j _ (by unfold intsC; rw [List.getElem?_map, partsN_get hjk, hk]; rfl)
          have RK := (H0.row 5 (t := 2) (sz := 1) (n := r) (v := .slice ak r ck) (us := intC fs) rfl).rdv
          have RS := (H0.row 4 (t := 33) (sz := 5) (n := r) (v := .slice ar r cr) (us := rowC row cs) rfl).rdv
          obtain ⟨g1, rfl, hc1, _⟩ := RS.at (by omega)
          obtain ⟨g2, rfl, hc2, _⟩ := RK.at (by omega)
          have hw1 := Lib.hid (show IntKind.i64.wrap ((m : Int) + 1) = (m : Int) + 1 by rw [IntKind.wrap_i64]; omega)
          obtain ⟨e9, he9⟩ : ∃ e, m + k = e := ⟨_, rfl⟩
          obtain ⟨l1, hl1⟩ : ∃ e, k - 1 = e := ⟨_, rfl⟩
          have hw2 := Lib.hid (show IntKind.i64.wrap ((m : Int) + (k : Int)) = (e9 : Int) by rw [IntKind.wrap_i64]; omega)
          have HS3 := Lib.hid (show (m : Int) + (k : Int) = (e9 : Int) by omega)
          have hee := Lib.hid (show e9 - (m + 1) = l1 ∧ e9 - m = k by omega)
          have HKF := (H0.get 3 rfl)
          obtain ⟨SF, hSF, _⟩ := HKF
          have HONE := Lib.hid (rowC_one ((hSF.1.dropN (HI.out.2.2.trans HR9.out.symm) m).takeN (by rw [List.length_drop, List.length_drop, HI.out.2.2, HR9.out]) k))
          obtain ⟨fk, hfk⟩ : ∃ x, fs[m]? = some x := ⟨_, List.getElem?_eq_getElem (by rw [HI.out.2.1]; omega)⟩
          obtain ⟨gk1, gk2⟩ := getD_cons hfk
          obtain ⟨va1, hva1⟩ : ∃ v, (if ck = m + 1 then some g2 else some ⟨g2.block, g2.off + (m + 1), none⟩) = v := ⟨_, rfl⟩
          obtain ⟨vb1, hvb1⟩ : ∃ v, (if cr = m then some g1 else some (g1.add (m * 5))) = v := ⟨_, rfl⟩
          have hks : (fs.drop m).take k = (fs.take (m + k)).drop m := (take_drop1 fs m k).symm
          have HV : Hid (∀ z q l, Heap w z (l ++ ([q, rowP 33 5 (.slice (some g1) r cr) r (rowC (row) (cs)), rowP 2 1 (.slice (some g2) r ck) r (intC (fs)), blkP b4 33 #[.bool false, .bool false, .slice none 0 0, .slice none 0 0, .slice none 0 0]])) → RdV z (.slice va1 l1 (ck - (m + 1))) l1 1 (intC (((fs.drop m).take k).drop 1)) ∧ RdV z (.slice vb1 k (cr - m)) k 5 (rowC ((row.drop m).take k) ((cs.drop m).take k)) ∧ World.cell? z (g2.add m) = some (.int .i64 fk)) := Lib.hid (fun z q l hz => by
            have hz2 := Heap.swapF hz
            have r1 := (hz2.row 2 (t := 2) (sz := 1) (n := r) (v := .slice (some g2) r ck) (us := intC fs) rfl).rdv
            have r2 := (hz2.row 1 (t := 33) (sz := 5) (n := r) (v := .slice (some g1) r cr) (us := rowC row cs) rfl).rdv
            have t1 := r1.sliced (lo := m + 1) (hi := m + k) (by omega) hm1
            have t2 := r2.sliced (lo := m) (hi := m + k) (by omega) hm1
            rw [intC_take, intC_drop, ← List.drop_drop, ← hks] at t1
            rw [rowC_take, rowC_drop, take_drop1, take_drop1] at t2
            refine ⟨?_, ?_, ?_⟩
            · have e1 : sliced (some g2) (m + 1) (m + k) ck 1 = .slice va1 l1 (ck - (m + 1)) := by
                rw [← hva1, ← hl1]
                unfold Go.sliced
                rw [show m + k - (m + 1) = k - 1 by omega]
                simp [Addr.add]
              rw [e1, show m + k - (m + 1) = l1 by omega] at t1
              exact t1
            · have e2 : sliced (some g1) m (m + k) cr 5 = .slice vb1 k (cr - m) := by
                rw [← hvb1]
                unfold Go.sliced
                rw [show m + k - m = k by omega]
                rfl
              rw [e2, show m + k - m = k by omega] at t2
              exact t2
            · obtain ⟨g3, e3, _, hat3⟩ := r1.at (by omega)
              have e3 : g2 = g3 := by simpa using e3
              subst e3
              exact hat3 m _ (by unfold intC; rw [List.getElem?_map, hfk]; rfl))
          obtain ⟨ks1, hks1⟩ : ∃ x, ((fs.drop m).take k).drop 1 = x := ⟨_, rfl⟩
          obtain ⟨kd1, hkd1⟩ : ∃ x, (row.drop m).take k = x := ⟨_, rfl⟩
          have hkl : ks1.length = l1 := by rw [← hks1, List.length_drop, List.length_take, List.length_drop, HI.out.2.1]; omega
          have hdl : ((row.drop m).take k).length = k := by rw [List.length_take, List.length_drop, HR9.out]; omega
          have HUS : Hid (upShs ((partsN r b).take (j + 1)) row fs = upShs ((partsN r b).take j) row fs ++ [.mk false false [] (((fs.drop m).take k).drop 1) ((row.drop m).take k)] ∧ upKeys ((partsN r b).take (j + 1)) fs = upKeys ((partsN r b).take j) fs ++ [fk] ∧ e9 = sumP r b (j + 1)) := Lib.hid (by
            have h9 : ((partsN r b).take j).sum = m := hm.symm
            refine ⟨?_, ?_, ?_⟩
            · rw [partsN_next hjk, upShs_snoc, h9, hk]
            · rw [partsN_next hjk, upKeys_snoc, h9, gk1]
            · rw [sumP_next hjk, ← hm, hk, he9])
          have HEE := Lib.hid (And.intro hva1 hvb1)
          have HCV : Hid (cv.length = (upShs ((partsN r b).take j) row fs).length) := Lib.hid (by rw [upShs_len, List.length_take, partsN_len, HK9.out, hcv]; omega)
          have HKD := Lib.hid (And.intro hkl hdl)
          rw [hks1] at HV HUS
          have HL5 := Lib.hid (show j + 1 ≤ maxLen ∧ (j + 1) * 80 ≤ 140737488355328 by unfold maxLen; omega)
          have HL := Lib.hid (show j + 1 ≤ maxLen ∧ (j + 1) * 8 ≤ 140737488355328 by unfold maxLen; omega)
          have HLA := Lib.hid (show 0 + l1 ≤ maxLen ∧ (0 + l1) * 8 ≤ 140737488355328 by unfold maxLen; omega)
          have HLB := Lib.hid (show 0 + k ≤ maxLen ∧ (0 + k) * 80 ≤ 140737488355328 by unfold maxLen; omega)
          have hie : (m : Int) + 1 ≤ (e9 : Int) := by omega
          have hie1 : (m : Int) ≤ (e9 : Int) := by omega
          have hie2 : (e9 : Int) ≤ (ck : Int) := by omega
          have hie3 : (e9 : Int) ≤ (cr : Int) := by omega
          have hie4 : m + 1 ≤ e9 := by omega
          have hie5 : m ≤ e9 := by omega
          have hie6 : e9 ≤ ck := by omega
          have hie7 : e9 ≤ cr := by omega
          have HH := Lib.hid H0
          have HM := Lib.hid (And.intro hm (And.intro hcv hk))
          have hb1 : m + k ≤ ck := by omega
          have hb2 : m + k ≤ cr := by omega
          have hb3 : m + 1 ≤ m + k := by omega
          have hi1 : (0 : Int) ≤ (m : Int) + 1 := by omega
          have hi2 : (m : Int) + 1 ≤ (m : Int) + (k : Int) := by omega
          have hi3 : (m : Int) + (k : Int) ≤ (ck : Int) := by omega
          have hi4 : (m : Int) + (k : Int) ≤ (cr : Int) := by omega
          have hmr1 : (m : Int) < (r : Int) := by omega
          clear HQ H0 hm hcv hk hatp QP RK RS hva1 hvb1 hks hks1 hkd1 hkl hdl hfk gk1 gk2 hSF he9 hl1 hi3 hi4 hi2 hb1 hb2 hb3 hjk
          go_upto_region 18 with fail
          go_cut [9] from 59 to 79 (fun s9 wx => ∃ (au : Option Addr) (cu : Nat) (cv : List Sv), s9 = .slice au (j + 1) cu ∧ Hid (cv.length = j + 1 ∧ Heap w wx ([rowP 33 5 (.slice au (j + 1) cu) (j + 1) (rowC (upShs ((partsN r b).take (j + 1)) row fs) (cv)), rowP 2 1 (.slice ag j cg) j (intC (upKeys ((partsN r b).take j) fs)), rowP 3 1 (.slice (some pa1) K pc2) K (intsC (partsN r b))] ++ ([fosP row cs (upShs ((partsN r b).take (j + 1)) row fs) (cv), rowP 33 5 (.slice (some g1) r cr) r (rowC (row) (cs)), rowP 2 1 (.slice (some g2) r ck) r (intC (fs)), blkP b4 33 #[.bool false, .bool false, .slice none 0 0, .slice none 0 0, .slice none 0 0]]))))
          case first =>
            have HZ := Lib.hid HH.out.drew
            clear HH y1
            refine wp_region_noPanic ?_
            refine AnyK.start (ks := [21]) (S := fun w' => ∃ l, Hid (Heap w w' (l ++ ([fosP row cs (upShs ((partsN r b).take j) row fs) (cv), rowP 33 5 (.slice (some g1) r cr) r (rowC (row) (cs)), rowP 2 1 (.slice (some g2) r ck) r (intC (fs)), blkP b4 33 #[.bool false, .bool false, .slice none 0 0, .slice none 0 0, .slice none 0 0]])))) (by kernel_rfl) (by exact ⟨_, HZ⟩) (fun _ => ?_)
            refine AnyK.takeB (i := 0) (v := ?_) rfl (by kernel_rfl) (by kernel_rfl) (by kernel_rfl) (by kernel_rfl) (fun _ _ _ h => h) (Or.inl ⟨by kernel_rfl, ?_⟩) (by exact ⟨_, HZ⟩) ?_
            rotate_left
            focus
              intro w9 hSw
              clear hSw
              go_simp
              try with_reducible rfl
            try simp only [Act.put, List.getElem_toArray, List.getElem_cons_zero, List.getElem_cons_succ, List.setIfInBounds_toArray, List.set_cons_zero, List.set_cons_succ]
            refine AnyK.takeB (i := 2) (v := ?_) rfl (by kernel_rfl) (by kernel_rfl) (by kernel_rfl) (by kernel_rfl) (fun _ _ _ h => h) (Or.inl ⟨by kernel_rfl, ?_⟩) (by exact ⟨_, HZ⟩) ?_
            rotate_left
            focus
              intro w9 hSw
              clear hSw
              go_simp
              try with_reducible rfl
            try simp only [Act.put, List.getElem_toArray, List.getElem_cons_zero, List.getElem_cons_succ, List.setIfInBounds_toArray, List.set_cons_zero, List.set_cons_succ]
            refine AnyK.takeB (i := 3) (v := ?_) rfl (by kernel_rfl) (by kernel_rfl) (by kernel_rfl) (by kernel_rfl) (fun _ _ _ h => h) (Or.inl ⟨by kernel_rfl, ?_⟩) (by exact ⟨_, HZ⟩) ?_
            rotate_left
            focus
              intro w9 hSw
              clear hSw
              go_simp
              try with_reducible rfl
            try simp only [Act.put, List.getElem_toArray, List.getElem_cons_zero, List.getElem_cons_succ, List.setIfInBounds_toArray, List.set_cons_zero, List.set_cons_succ]
            refine AnyK.takeB (i := 4) (v := ?_) rfl (by kernel_rfl) (by kernel_rfl) (by kernel_rfl) (by kernel_rfl) (fun _ _ _ h => h) (Or.inl ⟨by kernel_rfl, ?_⟩) (by exact ⟨_, HZ⟩) ?_
            rotate_left
            focus
              intro w9 hSw
              clear hSw
              go_simp
              try with_reducible rfl
            try simp only [Act.put, List.getElem_toArray, List.getElem_cons_zero, List.getElem_cons_succ, List.setIfInBounds_toArray, List.set_cons_zero, List.set_cons_succ]
            rw [hw1.out]
            refine AnyK.takeB (i := 5) (v := ?_) rfl (by kernel_rfl) (by kernel_rfl) (by kernel_rfl) (by kernel_rfl) (fun _ _ _ h => h) (Or.inl ⟨by kernel_rfl, ?_⟩) (by exact ⟨_, HZ⟩) ?_
            rotate_left
            focus
              intro w9 hSw
              clear hSw
              go_simp
              try with_reducible rfl
            try simp only [Act.put, List.getElem_toArray, List.getElem_cons_zero, List.getElem_cons_succ, List.setIfInBounds_toArray, List.set_cons_zero, List.set_cons_succ]
            refine AnyK.takeB (i := 6) (v := ?_) rfl (by kernel_rfl) (by kernel_rfl) (by kernel_rfl) (by kernel_rfl) (fun _ _ _ h => h) (Or.inl ⟨by kernel_rfl, ?_⟩) (by exact ⟨_, HZ⟩) ?_
            rotate_left
            focus
              intro w9 hSw
              clear hSw
              go_simp
              try with_reducible rfl
            try simp only [Act.put, List.getElem_toArray, List.getElem_cons_zero, List.getElem_cons_succ, List.setIfInBounds_toArray, List.set_cons_zero, List.set_cons_succ]
            refine AnyK.takeB (i := 7) (v := ?_) rfl (by kernel_rfl) (by kernel_rfl) (by kernel_rfl) (by kernel_rfl) (fun _ _ _ h => h) (Or.inl ⟨by kernel_rfl, ?_⟩) (by exact ⟨_, HZ⟩) ?_
            rotate_left
            focus
              intro w9 hSw
              clear hSw
              go_simp
              try with_reducible rfl
            try simp only [Act.put, List.getElem_toArray, List.getElem_cons_zero, List.getElem_cons_succ, List.setIfInBounds_toArray, List.set_cons_zero, List.set_cons_succ]
            rw [hw2.out]
            refine AnyK.takeB (i := 8) (v := ?_) rfl (by kernel_rfl) (by kernel_rfl) (by kernel_rfl) (by kernel_rfl) (fun _ _ _ h => h) (Or.inl ⟨by kernel_rfl, ?_⟩) (by exact ⟨_, HZ⟩) ?_
            rotate_left
            focus
              intro w9 hSw
              clear hSw
              go_simp
              try with_reducible rfl
            try simp only [Act.put, List.getElem_toArray, List.getElem_cons_zero, List.getElem_cons_succ, List.setIfInBounds_toArray, List.set_cons_zero, List.set_cons_succ]
            rw [HEE.out.1, hee.out.1]
            refine AnyK.takeB (i := 11) (v := ?_) rfl (by kernel_rfl) (by kernel_rfl) (by kernel_rfl) (by kernel_rfl) (fun _ _ _ h => h) (Or.inl ⟨by kernel_rfl, ?_⟩) (by exact ⟨_, HZ⟩) ?_
            rotate_left
            focus
              intro w9 hSw
              clear hSw
              go_simp
              try with_reducible rfl
            try simp only [Act.put, List.getElem_toArray, List.getElem_cons_zero, List.getElem_cons_succ, List.setIfInBounds_toArray, List.set_cons_zero, List.set_cons_succ]
            refine AnyK.takeB (i := 12) (v := ?_) rfl (by kernel_rfl) (by kernel_rfl) (by kernel_rfl) (by kernel_rfl) (fun _ _ _ h => h) (Or.inl ⟨by kernel_rfl, ?_⟩) (by exact ⟨_, HZ⟩) ?_
            rotate_left
            focus
              intro w9 hSw
              clear hSw
              go_simp
              try with_reducible rfl
            try simp only [Act.put, List.getElem_toArray, List.getElem_cons_zero, List.getElem_cons_succ, List.setIfInBounds_toArray, List.set_cons_zero, List.set_cons_succ]
            refine AnyK.takeB (i := 13) (v := ?_) rfl (by kernel_rfl) (by kernel_rfl) (by kernel_rfl) (by kernel_rfl) (fun _ _ _ h => h) (Or.inl ⟨by kernel_rfl, ?_⟩) (by exact ⟨_, HZ⟩) ?_
            rotate_left
            focus
              intro w9 hSw
              clear hSw
              go_simp
              try with_reducible rfl
            try simp only [Act.put, List.getElem_toArray, List.getElem_cons_zero, List.getElem_cons_succ, List.setIfInBounds_toArray, List.set_cons_zero, List.set_cons_succ]
            refine AnyK.takeB (i := 14) (v := ?_) rfl (by kernel_rfl) (by kernel_rfl) (by kernel_rfl) (by kernel_rfl) (fun _ _ _ h => h) (Or.inl ⟨by kernel_rfl, ?_⟩) (by exact ⟨_, HZ⟩) ?_
            rotate_left
            focus
              intro w9 hSw
              clear hSw
              go_simp
              try with_reducible rfl
            try simp only [Act.put, List.getElem_toArray, List.getElem_cons_zero, List.getElem_cons_succ, List.setIfInBounds_toArray, List.set_cons_zero, List.set_cons_succ]
            refine AnyK.takeB (i := 15) (v := ?_) rfl (by kernel_rfl) (by kernel_rfl) (by kernel_rfl) (by kernel_rfl) (fun _ _ _ h => h) (Or.inl ⟨by kernel_rfl, ?_⟩) (by exact ⟨_, HZ⟩) ?_
            rotate_left
            focus
              intro w9 hSw
              clear hSw
              go_simp
              try with_reducible rfl
            try simp only [Act.put, List.getElem_toArray, List.getElem_cons_zero, List.getElem_cons_succ, List.setIfInBounds_toArray, List.set_cons_zero, List.set_cons_succ]
            rw [hw2.out]
            refine AnyK.takeB (i := 16) (v := ?_) rfl (by kernel_rfl) (by kernel_rfl) (by kernel_rfl) (by kernel_rfl) (fun _ _ _ h => h) (Or.inl ⟨by kernel_rfl, ?_⟩) (by exact ⟨_, HZ⟩) ?_
            rotate_left
            focus
              intro w9 hSw
              clear hSw
              go_simp
              try with_reducible rfl
            try simp only [Act.put, List.getElem_toArray, List.getElem_cons_zero, List.getElem_cons_succ, List.setIfInBounds_toArray, List.set_cons_zero, List.set_cons_succ]
            rw [HEE.out.2, hee.out.2]
            clear hie hie1 hie2 hie3 hie4 hie5 hie6 hie7
            refine name_w (fun z0 hz0 => ?_)
            rw [hz0] at HZ
            clear hz0
            refine AnyK.two (i := 1) (j := 10) (by kernel_rfl) rfl rfl (fun K9 hK9 => ?_) (fun K9 hK9 => ?_)
            · go_simp
              have H9 := HZ.out.row0F 2 1
              generalize z0.heap.size = bp at H9 hK9 ⊢
              generalize z0.alloc (.cells #[] 2) = x1 at H9 hK9 ⊢
              have H9 : Heap w x1 ([rowP 2 1 (.slice (some ⟨bp, 0, none⟩) 0 0) 0 [], rowP 33 5 (.slice au j cu) j (rowC (upShs ((partsN r b).take j) row fs) (cv)), rowP 2 1 (.slice ag j cg) j (intC (upKeys ((partsN r b).take j) fs)), rowP 3 1 (.slice (some pa1) K pc2) K (intsC (partsN r b))] ++ ([fosP row cs (upShs ((partsN r b).take j) row fs) (cv), rowP 33 5 (.slice (some g1) r cr) r (rowC (row) (cs)), rowP 2 1 (.slice (some g2) r ck) r (intC (fs)), blkP b4 33 #[.bool false, .bool false, .slice none 0 0, .slice none 0 0, .slice none 0 0]])) := H9
              have E24HH1 := Lib.hid H9
              clear H9 HZ
              refine hK9.out _ _ (fun _ => ⟨_, E24HH1⟩) ?_
              clear hK9 K9
              try simp only [Act.put, List.getElem_toArray, List.getElem_cons_zero, List.getElem_cons_succ, List.setIfInBounds_toArray, List.set_cons_zero, List.set_cons_succ]
              refine AnyK.two (i := 9) (j := 10) (by kernel_rfl) rfl rfl (fun K9 hK9 => ?_) (fun K9 hK9 => ?_)
              · refine step_append_typed _ (by rfl) (.tmp 60) (.tmp 67) 22 (by rfl) 2 j0 (.int .i64 0) 1 8 Try.underlying22 J0.out.1 J0.out.2.1 J0.out.2.2.1 J0.out.2.2.2 rfl (by decide) (.slice (some ⟨bp, 0, none⟩) 0 0) 0 [] (by simp [Act.eval]) (E24HH1.out.row 0 rfl) (.slice va1 l1 (ck - (m + 1))) l1 (intC ks1) (by simp [Act.eval]) ((HV.out _ _ _ E24HH1.out).1) (intC_one ks1) HLA.out.1 HLA.out.2 ?_
                intro a7 c7 w7 q7 grow7 hat7
                have H9 := E24HH1.out.appRow 0 (m := l1) rfl (Fr.refl _ _) q7 grow7 hat7
                rw [Nat.zero_add, List.nil_append] at H9
                rw [Nat.zero_add]
                clear q7 grow7 hat7
                have H9 : Heap w w7 ([rowP 2 1 (.slice a7 l1 c7) l1 (intC ks1), rowP 33 5 (.slice au j cu) j (rowC (upShs ((partsN r b).take j) row fs) (cv)), rowP 2 1 (.slice ag j cg) j (intC (upKeys ((partsN r b).take j) fs)), rowP 3 1 (.slice (some pa1) K pc2) K (intsC (partsN r b))] ++ ([fosP row cs (upShs ((partsN r b).take j) row fs) (cv), rowP 33 5 (.slice (some g1) r cr) r (rowC (row) (cs)), rowP 2 1 (.slice (some g2) r ck) r (intC (fs)), blkP b4 33 #[.bool false, .bool false, .slice none 0 0, .slice none 0 0, .slice none 0 0]])) := H9
                have E25HH2 := Lib.hid H9
                clear H9 E24HH1
                refine hK9.out _ _ (fun _ => ⟨_, E25HH2⟩) ?_
                clear hK9 K9
                try simp only [Act.put, List.getElem_toArray, List.getElem_cons_zero, List.getElem_cons_succ, List.setIfInBounds_toArray, List.set_cons_zero, List.set_cons_succ]
                refine AnyK.one (i := 10) (by kernel_rfl) rfl (fun K9 hK9 => ?_)
                go_simp
                have H9 := E25HH2.out.row0F 33 5
                generalize w7.heap.size = bq at H9 hK9 ⊢
                generalize w7.alloc (.cells #[] 33) = x10 at H9 hK9 ⊢
                have H9 : Heap w x10 ([rowP 33 5 (.slice (some ⟨bq, 0, none⟩) 0 0) 0 [], rowP 2 1 (.slice a7 l1 c7) l1 (intC ks1), rowP 33 5 (.slice au j cu) j (rowC (upShs ((partsN r b).take j) row fs) (cv)), rowP 2 1 (.slice ag j cg) j (intC (upKeys ((partsN r b).take j) fs)), rowP 3 1 (.slice (some pa1) K pc2) K (intsC (partsN r b))] ++ ([fosP row cs (upShs ((partsN r b).take j) row fs) (cv), rowP 33 5 (.slice (some g1) r cr) r (rowC (row) (cs)), rowP 2 1 (.slice (some g2) r ck) r (intC (fs)), blkP b4 33 #[.bool false, .bool false, .slice none 0 0, .slice none 0 0, .slice none 0 0]])) := H9
                have E26HH3 := Lib.hid H9
                clear H9 E25HH2
                refine hK9.out _ _ (fun _ => ⟨_, E26HH3⟩) ?_
                clear hK9 K9
                try simp only [Act.put, List.getElem_toArray, List.getElem_cons_zero, List.getElem_cons_succ, List.setIfInBounds_toArray, List.set_cons_zero, List.set_cons_succ]
                refine AnyK.one (i := 17) (by kernel_rfl) rfl (fun K9 hK9 => ?_)
                refine step_append_typed _ (by rfl) (.tmp 69) (.tmp 75) 31 (by rfl) 33 i0 (.agg #[.bool false, .bool false, .slice none 0 0, .slice none 0 0, .slice none 0 0]) 5 80 Try.underlying31 I0.out.1 I0.out.2.1 I0.out.2.2.1 I0.out.2.2.2 rfl (by decide) (.slice (some ⟨bq, 0, none⟩) 0 0) 0 [] (by simp [Act.eval]) (E26HH3.out.row 0 rfl) (.slice vb1 k (cr - m)) k (rowC ((row.drop m).take k) ((cs.drop m).take k)) (by simp [Act.eval]) ((HV.out _ _ _ E26HH3.out).2.1) (HONE.out) HLB.out.1 HLB.out.2 ?_
                intro a6 c6 w6 q6 grow6 hat6
                have H9 := E26HH3.out.appRow 0 (m := k) rfl (Fr.refl _ _) q6 grow6 hat6
                rw [Nat.zero_add, List.nil_append] at H9
                rw [Nat.zero_add]
                clear q6 grow6 hat6
                have H9 : Heap w w6 ([rowP 33 5 (.slice a6 k c6) k (rowC ((row.drop m).take k) ((cs.drop m).take k)), rowP 2 1 (.slice a7 l1 c7) l1 (intC ks1), rowP 33 5 (.slice au j cu) j (rowC (upShs ((partsN r b).take j) row fs) (cv)), rowP 2 1 (.slice ag j cg) j (intC (upKeys ((partsN r b).take j) fs)), rowP 3 1 (.slice (some pa1) K pc2) K (intsC (partsN r b))] ++ ([fosP row cs (upShs ((partsN r b).take j) row fs) (cv), rowP 33 5 (.slice (some g1) r cr) r (rowC (row) (cs)), rowP 2 1 (.slice (some g2) r ck) r (intC (fs)), blkP b4 33 #[.bool false, .bool false, .slice none 0 0, .slice none 0 0, .slice none 0 0]])) := H9
                have E27HH4 := Lib.hid H9
                clear H9 E26HH3
                refine hK9.out _ _ (fun _ => ⟨_, E27HH4⟩) ?_
                clear hK9 K9
                try simp only [Act.put, List.getElem_toArray, List.getElem_cons_zero, List.getElem_cons_succ, List.setIfInBounds_toArray, List.set_cons_zero, List.set_cons_succ]
                refine AnyK.takeB (i := 18) (v := ?_) rfl (by kernel_rfl) (by kernel_rfl) (by kernel_rfl) (by kernel_rfl) (fun _ _ _ h => h) (Or.inl ⟨by kernel_rfl, ?_⟩) (by exact ⟨_, E27HH4⟩) ?_
                rotate_left
                focus
                  intro w9 hSw
                  clear hSw
                  go_simp
                  try with_reducible rfl
                try simp only [Act.put, List.getElem_toArray, List.getElem_cons_zero, List.getElem_cons_succ, List.setIfInBounds_toArray, List.set_cons_zero, List.set_cons_succ]
                refine AnyK.one (i := 19) (by kernel_rfl) rfl (fun K9 hK9 => ?_)
                go_simp
                have H9 := E27HH4.out.allocF 33 #[.bool false, .bool false, .slice none 0 0, .slice a7 l1 c7, .slice a6 k c6]
                generalize w6.heap.size = bs at H9 hK9 ⊢
                generalize w6.alloc (.cells #[.bool false, .bool false, .slice none 0 0, .slice a7 l1 c7, .slice a6 k c6] 33) = x19 at H9 hK9 ⊢
                have H9 : Heap w x19 ([blkP bs 33 #[.bool false, .bool false, .slice none 0 0, .slice a7 l1 c7, .slice a6 k c6], rowP 33 5 (.slice a6 k c6) k (rowC ((row.drop m).take k) ((cs.drop m).take k)), rowP 2 1 (.slice a7 l1 c7) l1 (intC ks1), rowP 33 5 (.slice au j cu) j (rowC (upShs ((partsN r b).take j) row fs) (cv)), rowP 2 1 (.slice ag j cg) j (intC (upKeys ((partsN r b).take j) fs)), rowP 3 1 (.slice (some pa1) K pc2) K (intsC (partsN r b))] ++ ([fosP row cs (upShs ((partsN r b).take j) row fs) (cv), rowP 33 5 (.slice (some g1) r cr) r (rowC (row) (cs)), rowP 2 1 (.slice (some g2) r ck) r (intC (fs)), blkP b4 33 #[.bool false, .bool false, .slice none 0 0, .slice none 0 0, .slice none 0 0]])) := H9
                have E28HH5 := Lib.hid H9
                clear H9 E27HH4
                refine hK9.out _ _ (fun _ => ⟨_, E28HH5⟩) ?_
                clear hK9 K9
                try simp only [Act.put, List.getElem_toArray, List.getElem_cons_zero, List.getElem_cons_succ, List.setIfInBounds_toArray, List.set_cons_zero, List.set_cons_succ]
                refine AnyK.one (i := 20) (by kernel_rfl) rfl (fun K9 hK9 => ?_)
                refine step_append_typed _ (by rfl) (.tmp 59) (.tmp 78) 31 (by rfl) 33 i0 (.agg #[.bool false, .bool false, .slice none 0 0, .slice none 0 0, .slice none 0 0]) 5 80 Try.underlying31 I0.out.1 I0.out.2.1 I0.out.2.2.1 I0.out.2.2.2 rfl (by decide) (.slice au j cu) j (rowC (upShs ((partsN r b).take j) row fs) (cv)) (by simp [Act.eval]) (E28HH5.out.row 3 rfl) (.slice (some ⟨bs, 0, none⟩) 1 1) 1 [.bool false, .bool false, .slice none 0 0, .slice a7 l1 c7, .slice a6 k c6] (by simp [Act.eval]) (RdV.block (cs := #[.bool false, .bool false, .slice none 0 0, .slice a7 l1 c7, .slice a6 k c6]) (t := 33) (E28HH5.out.blk 0 rfl) rfl (by decide)) (by simp [Value.oneCell']) HL5.out.1 HL5.out.2 ?_
                intro a8 c8 w8 q8 grow8 hat8
                have H9 := E28HH5.out.growRow 3 rfl (Fr.refl _ _) q8 grow8 (fun g hg => (hat8 g hg).resolve_left (fun h => absurd h.1 (by decide)))
                clear q8 grow8 hat8
                have H9 : Heap w w8 ([blkP bs 33 #[.bool false, .bool false, .slice none 0 0, .slice a7 l1 c7, .slice a6 k c6], rowP 33 5 (.slice a6 k c6) k (rowC ((row.drop m).take k) ((cs.drop m).take k)), rowP 2 1 (.slice a7 l1 c7) l1 (intC ks1), rowP 33 5 (.slice a8 (j + 1) c8) (j + 1) (rowC (upShs ((partsN r b).take j) row fs) (cv) ++ [.bool false, .bool false, .slice none 0 0, .slice a7 l1 c7, .slice a6 k c6]), rowP 2 1 (.slice ag j cg) j (intC (upKeys ((partsN r b).take j) fs)), rowP 3 1 (.slice (some pa1) K pc2) K (intsC (partsN r b))] ++ ([fosP row cs (upShs ((partsN r b).take j) row fs) (cv), rowP 33 5 (.slice (some g1) r cr) r (rowC (row) (cs)), rowP 2 1 (.slice (some g2) r ck) r (intC (fs)), blkP b4 33 #[.bool false, .bool false, .slice none 0 0, .slice none 0 0, .slice none 0 0]])) := H9
                have E29HH6 := Lib.hid H9
                clear H9 E28HH5
                refine hK9.out _ _ (fun _ => ⟨_, E29HH6⟩) ?_
                clear hK9 K9
                try simp only [Act.put, List.getElem_toArray, List.getElem_cons_zero, List.getElem_cons_succ, List.setIfInBounds_toArray, List.set_cons_zero, List.set_cons_succ]
                refine AnyK.phase (S' := fun _ => True) (ks' := []) (by kernel_rfl) ?_
                refine AnyK.take (i := 21) (v := ?_) rfl (by kernel_rfl) (by kernel_rfl) (by kernel_rfl) (by kernel_rfl) (fun _ _ _ h => h) (Or.inl ⟨by rfl, ?_⟩) (by exact trivial) ?_
                rotate_left
                focus
                  intro w9 hSw
                  try dsimp only at hSw
                  go_simp
                  try with_reducible rfl
                try simp only [Act.put, List.getElem_toArray, List.getElem_cons_zero, List.getElem_cons_succ, List.setIfInBounds_toArray, List.set_cons_zero, List.set_cons_succ]
                have H9 := E29HH6.out.tailP
                have H9 := H9.swap2
                have H9 := lv_push HKD.out.1 HKD.out.2 (HI.out.2.2.trans HR9.out.symm) HCV.out H9
                have HX2 : Hid (Heap w _ ([rowP 33 5 (.slice a8 (j + 1) c8) (j + 1) (rowC (upShs ((partsN r b).take (j + 1)) row fs) ((cv ++ [⟨.slice none 0 0, .slice a7 l1 c7, .slice a6 k c6⟩]))), rowP 2 1 (.slice ag j cg) j (intC (upKeys ((partsN r b).take j) fs)), rowP 3 1 (.slice (some pa1) K pc2) K (intsC (partsN r b))] ++ ([fosP row cs (upShs ((partsN r b).take (j + 1)) row fs) ((cv ++ [⟨.slice none 0 0, .slice a7 l1 c7, .slice a6 k c6⟩])), rowP 33 5 (.slice (some g1) r cr) r (rowC (row) (cs)), rowP 2 1 (.slice (some g2) r ck) r (intC (fs)), blkP b4 33 #[.bool false, .bool false, .slice none 0 0, .slice none 0 0, .slice none 0 0]]))) := Lib.hid (by
                  rw [HUS.out.1, rowC_snoc HCV.out]
                  exact H9)
                clear H9 E29HH6
                refine AnyK.done (by kernel_rfl) ?_ _
                refine NoPanic.normal ?_
                go_wp2_with fail
                go_meet
                exact ⟨a8, c8, _, rfl, Lib.hid ⟨by rw [List.length_append, HM.out.2.1]; rfl, HX2.out⟩⟩
              · go_simp
                have H9 := E24HH1.out.row0F 33 5
                generalize x1.heap.size = bq at H9 hK9 ⊢
                generalize x1.alloc (.cells #[] 33) = x10 at H9 hK9 ⊢
                have H9 : Heap w x10 ([rowP 33 5 (.slice (some ⟨bq, 0, none⟩) 0 0) 0 [], rowP 2 1 (.slice (some ⟨bp, 0, none⟩) 0 0) 0 [], rowP 33 5 (.slice au j cu) j (rowC (upShs ((partsN r b).take j) row fs) (cv)), rowP 2 1 (.slice ag j cg) j (intC (upKeys ((partsN r b).take j) fs)), rowP 3 1 (.slice (some pa1) K pc2) K (intsC (partsN r b))] ++ ([fosP row cs (upShs ((partsN r b).take j) row fs) (cv), rowP 33 5 (.slice (some g1) r cr) r (rowC (row) (cs)), rowP 2 1 (.slice (some g2) r ck) r (intC (fs)), blkP b4 33 #[.bool false, .bool false, .slice none 0 0, .slice none 0 0, .slice none 0 0]])) := H9
                have E30HH2 := Lib.hid H9
                clear H9 E24HH1
                refine hK9.out _ _ (fun _ => ⟨_, E30HH2⟩) ?_
                clear hK9 K9
                try simp only [Act.put, List.getElem_toArray, List.getElem_cons_zero, List.getElem_cons_succ, List.setIfInBounds_toArray, List.set_cons_zero, List.set_cons_succ]
                refine AnyK.one (i := 9) (by kernel_rfl) rfl (fun K9 hK9 => ?_)
                refine step_append_typed _ (by rfl) (.tmp 60) (.tmp 67) 22 (by rfl) 2 j0 (.int .i64 0) 1 8 Try.underlying22 J0.out.1 J0.out.2.1 J0.out.2.2.1 J0.out.2.2.2 rfl (by decide) (.slice (some ⟨bp, 0, none⟩) 0 0) 0 [] (by simp [Act.eval]) (E30HH2.out.row 1 rfl) (.slice va1 l1 (ck - (m + 1))) l1 (intC ks1) (by simp [Act.eval]) ((HV.out _ _ _ E30HH2.out).1) (intC_one ks1) HLA.out.1 HLA.out.2 ?_
                intro a7 c7 w7 q7 grow7 hat7
                have H9 := E30HH2.out.appRow 1 (m := l1) rfl (Fr.refl _ _) q7 grow7 hat7
                rw [Nat.zero_add, List.nil_append] at H9
                rw [Nat.zero_add]
                clear q7 grow7 hat7
                have H9 : Heap w w7 ([rowP 33 5 (.slice (some ⟨bq, 0, none⟩) 0 0) 0 [], rowP 2 1 (.slice a7 l1 c7) l1 (intC ks1), rowP 33 5 (.slice au j cu) j (rowC (upShs ((partsN r b).take j) row fs) (cv)), rowP 2 1 (.slice ag j cg) j (intC (upKeys ((partsN r b).take j) fs)), rowP 3 1 (.slice (some pa1) K pc2) K (intsC (partsN r b))] ++ ([fosP row cs (upShs ((partsN r b).take j) row fs) (cv), rowP 33 5 (.slice (some g1) r cr) r (rowC (row) (cs)), rowP 2 1 (.slice (some g2) r ck) r (intC (fs)), blkP b4 33 #[.bool false, .bool false, .slice none 0 0, .slice none 0 0, .slice none 0 0]])) := H9
                have E31HH3 := Lib.hid H9
                clear H9 E30HH2
                refine hK9.out _ _ (fun _ => ⟨_, E31HH3⟩) ?_
                clear hK9 K9
                try simp only [Act.put, List.getElem_toArray, List.getElem_cons_zero, List.getElem_cons_succ, List.setIfInBounds_toArray, List.set_cons_zero, List.set_cons_succ]
                refine AnyK.one (i := 17) (by kernel_rfl) rfl (fun K9 hK9 => ?_)
                refine step_append_typed _ (by rfl) (.tmp 69) (.tmp 75) 31 (by rfl) 33 i0 (.agg #[.bool false, .bool false, .slice none 0 0, .slice none 0 0, .slice none 0 0]) 5 80 Try.underlying31 I0.out.1 I0.out.2.1 I0.out.2.2.1 I0.out.2.2.2 rfl (by decide) (.slice (some ⟨bq, 0, none⟩) 0 0) 0 [] (by simp [Act.eval]) (E31HH3.out.row 0 rfl) (.slice vb1 k (cr - m)) k (rowC ((row.drop m).take k) ((cs.drop m).take k)) (by simp [Act.eval]) ((HV.out _ _ _ E31HH3.out).2.1) (HONE.out) HLB.out.1 HLB.out.2 ?_
                intro a6 c6 w6 q6 grow6 hat6
                have H9 := E31HH3.out.appRow 0 (m := k) rfl (Fr.refl _ _) q6 grow6 hat6
                rw [Nat.zero_add, List.nil_append] at H9
                rw [Nat.zero_add]
                clear q6 grow6 hat6
                have H9 : Heap w w6 ([rowP 33 5 (.slice a6 k c6) k (rowC ((row.drop m).take k) ((cs.drop m).take k)), rowP 2 1 (.slice a7 l1 c7) l1 (intC ks1), rowP 33 5 (.slice au j cu) j (rowC (upShs ((partsN r b).take j) row fs) (cv)), rowP 2 1 (.slice ag j cg) j (intC (upKeys ((partsN r b).take j) fs)), rowP 3 1 (.slice (some pa1) K pc2) K (intsC (partsN r b))] ++ ([fosP row cs (upShs ((partsN r b).take j) row fs) (cv), rowP 33 5 (.slice (some g1) r cr) r (rowC (row) (cs)), rowP 2 1 (.slice (some g2) r ck) r (intC (fs)), blkP b4 33 #[.bool false, .bool false, .slice none 0 0, .slice none 0 0, .slice none 0 0]])) := H9
                have E32HH4 := Lib.hid H9
                clear H9 E31HH3
                refine hK9.out _ _ (fun _ => ⟨_, E32HH4⟩) ?_
                clear hK9 K9
                try simp only [Act.put, List.getElem_toArray, List.getElem_cons_zero, List.getElem_cons_succ, List.setIfInBounds_toArray, List.set_cons_zero, List.set_cons_succ]
                refine AnyK.takeB (i := 18) (v := ?_) rfl (by kernel_rfl) (by kernel_rfl) (by kernel_rfl) (by kernel_rfl) (fun _ _ _ h => h) (Or.inl ⟨by kernel_rfl, ?_⟩) (by exact ⟨_, E32HH4⟩) ?_
                rotate_left
                focus
                  intro w9 hSw
                  clear hSw
                  go_simp
                  try with_reducible rfl
                try simp only [Act.put, List.getElem_toArray, List.getElem_cons_zero, List.getElem_cons_succ, List.setIfInBounds_toArray, List.set_cons_zero, List.set_cons_succ]
                refine AnyK.one (i := 19) (by kernel_rfl) rfl (fun K9 hK9 => ?_)
                go_simp
                have H9 := E32HH4.out.allocF 33 #[.bool false, .bool false, .slice none 0 0, .slice a7 l1 c7, .slice a6 k c6]
                generalize w6.heap.size = bs at H9 hK9 ⊢
                generalize w6.alloc (.cells #[.bool false, .bool false, .slice none 0 0, .slice a7 l1 c7, .slice a6 k c6] 33) = x19 at H9 hK9 ⊢
                have H9 : Heap w x19 ([blkP bs 33 #[.bool false, .bool false, .slice none 0 0, .slice a7 l1 c7, .slice a6 k c6], rowP 33 5 (.slice a6 k c6) k (rowC ((row.drop m).take k) ((cs.drop m).take k)), rowP 2 1 (.slice a7 l1 c7) l1 (intC ks1), rowP 33 5 (.slice au j cu) j (rowC (upShs ((partsN r b).take j) row fs) (cv)), rowP 2 1 (.slice ag j cg) j (intC (upKeys ((partsN r b).take j) fs)), rowP 3 1 (.slice (some pa1) K pc2) K (intsC (partsN r b))] ++ ([fosP row cs (upShs ((partsN r b).take j) row fs) (cv), rowP 33 5 (.slice (some g1) r cr) r (rowC (row) (cs)), rowP 2 1 (.slice (some g2) r ck) r (intC (fs)), blkP b4 33 #[.bool false, .bool false, .slice none 0 0, .slice none 0 0, .slice none 0 0]])) := H9
                have E33HH5 := Lib.hid H9
                clear H9 E32HH4
                refine hK9.out _ _ (fun _ => ⟨_, E33HH5⟩) ?_
                clear hK9 K9
                try simp only [Act.put, List.getElem_toArray, List.getElem_cons_zero, List.getElem_cons_succ, List.setIfInBounds_toArray, List.set_cons_zero, List.set_cons_succ]
                refine AnyK.one (i := 20) (by kernel_rfl) rfl (fun K9 hK9 => ?_)
                refine step_append_typed _ (by rfl) (.tmp 59) (.tmp 78) 31 (by rfl) 33 i0 (.agg #[.bool false, .bool false, .slice none 0 0, .slice none 0 0, .slice none 0 0]) 5 80 Try.underlying31 I0.out.1 I0.out.2.1 I0.out.2.2.1 I0.out.2.2.2 rfl (by decide) (.slice au j cu) j (rowC (upShs ((partsN r b).take j) row fs) (cv)) (by simp [Act.eval]) (E33HH5.out.row 3 rfl) (.slice (some ⟨bs, 0, none⟩) 1 1) 1 [.bool false, .bool false, .slice none 0 0, .slice a7 l1 c7, .slice a6 k c6] (by simp [Act.eval]) (RdV.block (cs := #[.bool false, .bool false, .slice none 0 0, .slice a7 l1 c7, .slice a6 k c6]) (t := 33) (E33HH5.out.blk 0 rfl) rfl (by decide)) (by simp [Value.oneCell']) HL5.out.1 HL5.out.2 ?_
                intro a8 c8 w8 q8 grow8 hat8
                have H9 := E33HH5.out.growRow 3 rfl (Fr.refl _ _) q8 grow8 (fun g hg => (hat8 g hg).resolve_left (fun h => absurd h.1 (by decide)))
                clear q8 grow8 hat8
                have H9 : Heap w w8 ([blkP bs 33 #[.bool false, .bool false, .slice none 0 0, .slice a7 l1 c7, .slice a6 k c6], rowP 33 5 (.slice a6 k c6) k (rowC ((row.drop m).take k) ((cs.drop m).take k)), rowP 2 1 (.slice a7 l1 c7) l1 (intC ks1), rowP 33 5 (.slice a8 (j + 1) c8) (j + 1) (rowC (upShs ((partsN r b).take j) row fs) (cv) ++ [.bool false, .bool false, .slice none 0 0, .slice a7 l1 c7, .slice a6 k c6]), rowP 2 1 (.slice ag j cg) j (intC (upKeys ((partsN r b).take j) fs)), rowP 3 1 (.slice (some pa1) K pc2) K (intsC (partsN r b))] ++ ([fosP row cs (upShs ((partsN r b).take j) row fs) (cv), rowP 33 5 (.slice (some g1) r cr) r (rowC (row) (cs)), rowP 2 1 (.slice (some g2) r ck) r (intC (fs)), blkP b4 33 #[.bool false, .bool false, .slice none 0 0, .slice none 0 0, .slice none 0 0]])) := H9
                have E34HH6 := Lib.hid H9
                clear H9 E33HH5
                refine hK9.out _ _ (fun _ => ⟨_, E34HH6⟩) ?_
                clear hK9 K9
                try simp only [Act.put, List.getElem_toArray, List.getElem_cons_zero, List.getElem_cons_succ, List.setIfInBounds_toArray, List.set_cons_zero, List.set_cons_succ]
                refine AnyK.phase (S' := fun _ => True) (ks' := []) (by kernel_rfl) ?_
                refine AnyK.take (i := 21) (v := ?_) rfl (by kernel_rfl) (by kernel_rfl) (by kernel_rfl) (by kernel_rfl) (fun _ _ _ h => h) (Or.inl ⟨by rfl, ?_⟩) (by exact trivial) ?_
                rotate_left
                focus
                  intro w9 hSw
                  try dsimp only at hSw
                  go_simp
                  try with_reducible rfl
                try simp only [Act.put, List.getElem_toArray, List.getElem_cons_zero, List.getElem_cons_succ, List.setIfInBounds_toArray, List.set_cons_zero, List.set_cons_succ]
                have H9 := E34HH6.out.tailP
                have H9 := H9.swap2
                have H9 := lv_push HKD.out.1 HKD.out.2 (HI.out.2.2.trans HR9.out.symm) HCV.out H9
                have HX2 : Hid (Heap w _ ([rowP 33 5 (.slice a8 (j + 1) c8) (j + 1) (rowC (upShs ((partsN r b).take (j + 1)) row fs) ((cv ++ [⟨.slice none 0 0, .slice a7 l1 c7, .slice a6 k c6⟩]))), rowP 2 1 (.slice ag j cg) j (intC (upKeys ((partsN r b).take j) fs)), rowP 3 1 (.slice (some pa1) K pc2) K (intsC (partsN r b))] ++ ([fosP row cs (upShs ((partsN r b).take (j + 1)) row fs) ((cv ++ [⟨.slice none 0 0, .slice a7 l1 c7, .slice a6 k c6⟩])), rowP 33 5 (.slice (some g1) r cr) r (rowC (row) (cs)), rowP 2 1 (.slice (some g2) r ck) r (intC (fs)), blkP b4 33 #[.bool false, .bool false, .slice none 0 0, .slice none 0 0, .slice none 0 0]]))) := Lib.hid (by
                  rw [HUS.out.1, rowC_snoc HCV.out]
                  exact H9)
                clear H9 E34HH6
                refine AnyK.done (by kernel_rfl) ?_ _
                refine NoPanic.normal ?_
                go_wp2_with fail
                go_meet
                exact ⟨a8, c8, _, rfl, Lib.hid ⟨by rw [List.length_append, HM.out.2.1]; rfl, HX2.out⟩⟩
            · go_simp
              have H9 := HZ.out.row0F 33 5
              generalize z0.heap.size = bq at H9 hK9 ⊢
              generalize z0.alloc (.cells #[] 33) = x10 at H9 hK9 ⊢
              have H9 : Heap w x10 ([rowP 33 5 (.slice (some ⟨bq, 0, none⟩) 0 0) 0 [], rowP 33 5 (.slice au j cu) j (rowC (upShs ((partsN r b).take j) row fs) (cv)), rowP 2 1 (.slice ag j cg) j (intC (upKeys ((partsN r b).take j) fs)), rowP 3 1 (.slice (some pa1) K pc2) K (intsC (partsN r b))] ++ ([fosP row cs (upShs ((partsN r b).take j) row fs) (cv), rowP 33 5 (.slice (some g1) r cr) r (rowC (row) (cs)), rowP 2 1 (.slice (some g2) r ck) r (intC (fs)), blkP b4 33 #[.bool false, .bool false, .slice none 0 0, .slice none 0 0, .slice none 0 0]])) := H9
              have E35HH1 := Lib.hid H9
              clear H9 HZ
              refine hK9.out _ _ (fun _ => ⟨_, E35HH1⟩) ?_
              clear hK9 K9
              try simp only [Act.put, List.getElem_toArray, List.getElem_cons_zero, List.getElem_cons_succ, List.setIfInBounds_toArray, List.set_cons_zero, List.set_cons_succ]
              refine AnyK.one (i := 1) (by kernel_rfl) rfl (fun K9 hK9 => ?_)
              go_simp
              have H9 := E35HH1.out.row0F 2 1
              generalize x10.heap.size = bp at H9 hK9 ⊢
              generalize x10.alloc (.cells #[] 2) = x1 at H9 hK9 ⊢
              have H9 : Heap w x1 ([rowP 2 1 (.slice (some ⟨bp, 0, none⟩) 0 0) 0 [], rowP 33 5 (.slice (some ⟨bq, 0, none⟩) 0 0) 0 [], rowP 33 5 (.slice au j cu) j (rowC (upShs ((partsN r b).take j) row fs) (cv)), rowP 2 1 (.slice ag j cg) j (intC (upKeys ((partsN r b).take j) fs)), rowP 3 1 (.slice (some pa1) K pc2) K (intsC (partsN r b))] ++ ([fosP row cs (upShs ((partsN r b).take j) row fs) (cv), rowP 33 5 (.slice (some g1) r cr) r (rowC (row) (cs)), rowP 2 1 (.slice (some g2) r ck) r (intC (fs)), blkP b4 33 #[.bool false, .bool false, .slice none 0 0, .slice none 0 0, .slice none 0 0]])) := H9
              have E36HH2 := Lib.hid H9
              clear H9 E35HH1
              refine hK9.out _ _ (fun _ => ⟨_, E36HH2⟩) ?_
              clear hK9 K9
              try simp only [Act.put, List.getElem_toArray, List.getElem_cons_zero, List.getElem_cons_succ, List.setIfInBounds_toArray, List.set_cons_zero, List.set_cons_succ]
              refine AnyK.one (i := 9) (by kernel_rfl) rfl (fun K9 hK9 => ?_)
              refine step_append_typed _ (by rfl) (.tmp 60) (.tmp 67) 22 (by rfl) 2 j0 (.int .i64 0) 1 8 Try.underlying22 J0.out.1 J0.out.2.1 J0.out.2.2.1 J0.out.2.2.2 rfl (by decide) (.slice (some ⟨bp, 0, none⟩) 0 0) 0 [] (by simp [Act.eval]) (E36HH2.out.row 0 rfl) (.slice va1 l1 (ck - (m + 1))) l1 (intC ks1) (by simp [Act.eval]) ((HV.out _ _ _ E36HH2.out).1) (intC_one ks1) HLA.out.1 HLA.out.2 ?_
              intro a7 c7 w7 q7 grow7 hat7
              have H9 := E36HH2.out.appRow 0 (m := l1) rfl (Fr.refl _ _) q7 grow7 hat7
              rw [Nat.zero_add, List.nil_append] at H9
              rw [Nat.zero_add]
              clear q7 grow7 hat7
              have H9 : Heap w w7 ([rowP 2 1 (.slice a7 l1 c7) l1 (intC ks1), rowP 33 5 (.slice (some ⟨bq, 0, none⟩) 0 0) 0 [], rowP 33 5 (.slice au j cu) j (rowC (upShs ((partsN r b).take j) row fs) (cv)), rowP 2 1 (.slice ag j cg) j (intC (upKeys ((partsN r b).take j) fs)), rowP 3 1 (.slice (some pa1) K pc2) K (intsC (partsN r b))] ++ ([fosP row cs (upShs ((partsN r b).take j) row fs) (cv), rowP 33 5 (.slice (some g1) r cr) r (rowC (row) (cs)), rowP 2 1 (.slice (some g2) r ck) r (intC (fs)), blkP b4 33 #[.bool false, .bool false, .slice none 0 0, .slice none 0 0, .slice none 0 0]])) := H9
              have E37HH3 := Lib.hid H9
              clear H9 E36HH2
              refine hK9.out _ _ (fun _ => ⟨_, E37HH3⟩) ?_
              clear hK9 K9
              try simp only [Act.put, List.getElem_toArray, List.getElem_cons_zero, List.getElem_cons_succ, List.setIfInBounds_toArray, List.set_cons_zero, List.set_cons_succ]
              refine AnyK.one (i := 17) (by kernel_rfl) rfl (fun K9 hK9 => ?_)
              refine step_append_typed _ (by rfl) (.tmp 69) (.tmp 75) 31 (by rfl) 33 i0 (.agg #[.bool false, .bool false, .slice none 0 0, .slice none 0 0, .slice none 0 0]) 5 80 Try.underlying31 I0.out.1 I0.out.2.1 I0.out.2.2.1 I0.out.2.2.2 rfl (by decide) (.slice (some ⟨bq, 0, none⟩) 0 0) 0 [] (by simp [Act.eval]) (E37HH3.out.row 1 rfl) (.slice vb1 k (cr - m)) k (rowC ((row.drop m).take k) ((cs.drop m).take k)) (by simp [Act.eval]) ((HV.out _ _ _ E37HH3.out).2.1) (HONE.out) HLB.out.1 HLB.out.2 ?_
              intro a6 c6 w6 q6 grow6 hat6
              have H9 := E37HH3.out.appRow 1 (m := k) rfl (Fr.refl _ _) q6 grow6 hat6
              rw [Nat.zero_add, List.nil_append] at H9
              rw [Nat.zero_add]
              clear q6 grow6 hat6
              have H9 : Heap w w6 ([rowP 2 1 (.slice a7 l1 c7) l1 (intC ks1), rowP 33 5 (.slice a6 k c6) k (rowC ((row.drop m).take k) ((cs.drop m).take k)), rowP 33 5 (.slice au j cu) j (rowC (upShs ((partsN r b).take j) row fs) (cv)), rowP 2 1 (.slice ag j cg) j (intC (upKeys ((partsN r b).take j) fs)), rowP 3 1 (.slice (some pa1) K pc2) K (intsC (partsN r b))] ++ ([fosP row cs (upShs ((partsN r b).take j) row fs) (cv), rowP 33 5 (.slice (some g1) r cr) r (rowC (row) (cs)), rowP 2 1 (.slice (some g2) r ck) r (intC (fs)), blkP b4 33 #[.bool false, .bool false, .slice none 0 0, .slice none 0 0, .slice none 0 0]])) := H9
              have E38HH4 := Lib.hid H9
              clear H9 E37HH3
              refine hK9.out _ _ (fun _ => ⟨_, E38HH4⟩) ?_
              clear hK9 K9
              try simp only [Act.put, List.getElem_toArray, List.getElem_cons_zero, List.getElem_cons_succ, List.setIfInBounds_toArray, List.set_cons_zero, List.set_cons_succ]
              refine AnyK.takeB (i := 18) (v := ?_) rfl (by kernel_rfl) (by kernel_rfl) (by kernel_rfl) (by kernel_rfl) (fun _ _ _ h => h) (Or.inl ⟨by kernel_rfl, ?_⟩) (by exact ⟨_, E38HH4⟩) ?_
              rotate_left
              focus
                intro w9 hSw
                clear hSw
                go_simp
                try with_reducible rfl
              try simp only [Act.put, List.getElem_toArray, List.getElem_cons_zero, List.getElem_cons_succ, List.setIfInBounds_toArray, List.set_cons_zero, List.set_cons_succ]
              refine AnyK.one (i := 19) (by kernel_rfl) rfl (fun K9 hK9 => ?_)
              go_simp
              have H9 := E38HH4.out.allocF 33 #[.bool false, .bool false, .slice none 0 0, .slice a7 l1 c7, .slice a6 k c6]
              generalize w6.heap.size = bs at H9 hK9 ⊢
              generalize w6.alloc (.cells #[.bool false, .bool false, .slice none 0 0, .slice a7 l1 c7, .slice a6 k c6] 33) = x19 at H9 hK9 ⊢
              have H9 : Heap w x19 ([blkP bs 33 #[.bool false, .bool false, .slice none 0 0, .slice a7 l1 c7, .slice a6 k c6], rowP 2 1 (.slice a7 l1 c7) l1 (intC ks1), rowP 33 5 (.slice a6 k c6) k (rowC ((row.drop m).take k) ((cs.drop m).take k)), rowP 33 5 (.slice au j cu) j (rowC (upShs ((partsN r b).take j) row fs) (cv)), rowP 2 1 (.slice ag j cg) j (intC (upKeys ((partsN r b).take j) fs)), rowP 3 1 (.slice (some pa1) K pc2) K (intsC (partsN r b))] ++ ([fosP row cs (upShs ((partsN r b).take j) row fs) (cv), rowP 33 5 (.slice (some g1) r cr) r (rowC (row) (cs)), rowP 2 1 (.slice (some g2) r ck) r (intC (fs)), blkP b4 33 #[.bool false, .bool false, .slice none 0 0, .slice none 0 0, .slice none 0 0]])) := H9
              have E39HH5 := Lib.hid H9
              clear H9 E38HH4
              refine hK9.out _ _ (fun _ => ⟨_, E39HH5⟩) ?_
              clear hK9 K9
              try simp only [Act.put, List.getElem_toArray, List.getElem_cons_zero, List.getElem_cons_succ, List.setIfInBounds_toArray, List.set_cons_zero, List.set_cons_succ]
              refine AnyK.one (i := 20) (by kernel_rfl) rfl (fun K9 hK9 => ?_)
              refine step_append_typed _ (by rfl) (.tmp 59) (.tmp 78) 31 (by rfl) 33 i0 (.agg #[.bool false, .bool false, .slice none 0 0, .slice none 0 0, .slice none 0 0]) 5 80 Try.underlying31 I0.out.1 I0.out.2.1 I0.out.2.2.1 I0.out.2.2.2 rfl (by decide) (.slice au j cu) j (rowC (upShs ((partsN r b).take j) row fs) (cv)) (by simp [Act.eval]) (E39HH5.out.row 3 rfl) (.slice (some ⟨bs, 0, none⟩) 1 1) 1 [.bool false, .bool false, .slice none 0 0, .slice a7 l1 c7, .slice a6 k c6] (by simp [Act.eval]) (RdV.block (cs := #[.bool false, .bool false, .slice none 0 0, .slice a7 l1 c7, .slice a6 k c6]) (t := 33) (E39HH5.out.blk 0 rfl) rfl (by decide)) (by simp [Value.oneCell']) HL5.out.1 HL5.out.2 ?_
              intro a8 c8 w8 q8 grow8 hat8
              have H9 := E39HH5.out.growRow 3 rfl (Fr.refl _ _) q8 grow8 (fun g hg => (hat8 g hg).resolve_left (fun h => absurd h.1 (by decide)))
              clear q8 grow8 hat8
              have H9 : Heap w w8 ([blkP bs 33 #[.bool false, .bool false, .slice none 0 0, .slice a7 l1 c7, .slice a6 k c6], rowP 2 1 (.slice a7 l1 c7) l1 (intC ks1), rowP 33 5 (.slice a6 k c6) k (rowC ((row.drop m).take k) ((cs.drop m).take k)), rowP 33 5 (.slice a8 (j + 1) c8) (j + 1) (rowC (upShs ((partsN r b).take j) row fs) (cv) ++ [.bool false, .bool false, .slice none 0 0, .slice a7 l1 c7, .slice a6 k c6]), rowP 2 1 (.slice ag j cg) j (intC (upKeys ((partsN r b).take j) fs)), rowP 3 1 (.slice (some pa1) K pc2) K (intsC (partsN r b))] ++ ([fosP row cs (upShs ((partsN r b).take j) row fs) (cv), rowP 33 5 (.slice (some g1) r cr) r (rowC (row) (cs)), rowP 2 1 (.slice (some g2) r ck) r (intC (fs)), blkP b4 33 #[.bool false, .bool false, .slice none 0 0, .slice none 0 0, .slice none 0 0]])) := H9
              have E40HH6 := Lib.hid H9
              clear H9 E39HH5
              refine hK9.out _ _ (fun _ => ⟨_, E40HH6⟩) ?_
              clear hK9 K9
              try simp only [Act.put, List.getElem_toArray, List.getElem_cons_zero, List.getElem_cons_succ, List.setIfInBounds_toArray, List.set_cons_zero, List.set_cons_succ]
              refine AnyK.phase (S' := fun _ => True) (ks' := []) (by kernel_rfl) ?_
              refine AnyK.take (i := 21) (v := ?_) rfl (by kernel_rfl) (by kernel_rfl) (by kernel_rfl) (by kernel_rfl) (fun _ _ _ h => h) (Or.inl ⟨by rfl, ?_⟩) (by exact trivial) ?_
              rotate_left
              focus
                intro w9 hSw
                try dsimp only at hSw
                go_simp
                try with_reducible rfl
              try simp only [Act.put, List.getElem_toArray, List.getElem_cons_zero, List.getElem_cons_succ, List.setIfInBounds_toArray, List.set_cons_zero, List.set_cons_succ]
              have H9 := E40HH6.out.tailP
              have H9 := lv_push HKD.out.1 HKD.out.2 (HI.out.2.2.trans HR9.out.symm) HCV.out H9
              have HX2 : Hid (Heap w _ ([rowP 33 5 (.slice a8 (j + 1) c8) (j + 1) (rowC (upShs ((partsN r b).take (j + 1)) row fs) ((cv ++ [⟨.slice none 0 0, .slice a7 l1 c7, .slice a6 k c6⟩]))), rowP 2 1 (.slice ag j cg) j (intC (upKeys ((partsN r b).take j) fs)), rowP 3 1 (.slice (some pa1) K pc2) K (intsC (partsN r b))] ++ ([fosP row cs (upShs ((partsN r b).take (j + 1)) row fs) ((cv ++ [⟨.slice none 0 0, .slice a7 l1 c7, .slice a6 k c6⟩])), rowP 33 5 (.slice (some g1) r cr) r (rowC (row) (cs)), rowP 2 1 (.slice (some g2) r ck) r (intC (fs)), blkP b4 33 #[.bool false, .bool false, .slice none 0 0, .slice none 0 0, .slice none 0 0]]))) := Lib.hid (by
                rw [HUS.out.1, rowC_snoc HCV.out]
                exact H9)
              clear H9 E40HH6
              refine AnyK.done (by kernel_rfl) ?_ _
              refine NoPanic.normal ?_
              go_wp2_with fail
              go_meet
              exact ⟨a8, c8, _, rfl, Lib.hid ⟨by rw [List.length_append, HM.out.2.1]; rfl, HX2.out⟩⟩
          case rest =>
          obtain ⟨au2, cu2, cv2, rfl, HH7⟩ := hcut
          clear HH y1 hie hie1 hie2 hie3 hie4 hie5 hie6 hie7
          rename World => w7
          have y3 : World.cell? w7 (g2.add m) = some (.int .i64 fk) := (HV.out _ _ _ HH7.out.2).2.2
          have QQ := Lib.hid (HH7.out.2.row 1 (t := 2) (sz := 1) (n := j) (v := .slice ag j cg) (us := intC (upKeys ((partsN r b).take j) fs)) rfl)
          go_wp2_with (at_builtin; refine wpList_append_typed _ rfl _ _ _ (by rfl) 2 j0 (.int .i64 0) 1 8 Try.underlying22 J0.out.1 J0.out.2.1 J0.out.2.2.1 J0.out.2.2.2 rfl (by decide) (.slice ag j cg) j (intC (upKeys ((partsN r b).take j) fs)) (by rfl) (QQ.out.fr (F := nob) (by repeat (first | exact Fr.refl _ _ | apply Fr.drew | apply Fr.alloc)) (fun _ _ _ x => x)) _ 1 [.int .i64 fk] (by rfl) (RdV.block (cs := #[.int .i64 fk]) (t := 2) (by repeat (first | exact Blk.new' rfl _ _ | apply Blk.drew | apply Blk.alloc)) rfl (by decide)) (by simp [Value.oneCell']) HL.out.1 HL.out.2 ?_)
          intro a8 c8 w8 q8 grow8 hat8
          have G8 := HH7.out.2.growRow 1 (t := 2) (sz := 1) (n := j) (v := .slice ag j cg) (us := intC (upKeys ((partsN r b).take j) fs)) rfl (Fr.alloc (Fr.refl nob w7) (.cells #[.int .i64 fk] 2)) q8 grow8 (fun g hg => (hat8 g hg).imp_left (fun h => h.imp_right (fun h => by simpa using h)))
          have HX3 : Hid (cv2.length = j + 1 ∧ Heap w w8 ([rowP 33 5 (.slice au2 (j + 1) cu2) (j + 1) (rowC (upShs ((partsN r b).take (j + 1)) row fs) (cv2)), rowP 2 1 (.slice a8 (j + 1) c8) (j + 1) (intC (upKeys ((partsN r b).take (j + 1)) fs)), rowP 3 1 (.slice (some pa1) K pc2) K (intsC (partsN r b))] ++ ([fosP row cs (upShs ((partsN r b).take (j + 1)) row fs) (cv2), rowP 33 5 (.slice (some g1) r cr) r (rowC (row) (cs)), rowP 2 1 (.slice (some g2) r ck) r (intC (fs)), blkP b4 33 #[.bool false, .bool false, .slice none 0 0, .slice none 0 0, .slice none 0 0]]))) := Lib.hid ⟨HH7.out.1, by
            rw [HUS.out.2.1, intC_snoc]
            exact G8⟩
          clear G8 q8 grow8 hat8 QQ y3 HH7
          go_upto_region 21 with fail
          rw [HS3.out]
          go_wp2_with fail
          exact ⟨⟨j + 1, e9, au2, cu2, a8, c8, cv2, by go_num, by have := HLJ.out; omega, rfl, rfl, rfl, by have := hee.out; omega, Lib.hid ⟨HUS.out.2.2, HX3.out.1, HX3.out.2⟩⟩, by have := HLJ.out; simp [intOf]; omega⟩
        · obtain rfl : j = K := by omega
          have HX : Hid (cv.length = j ∧ Heap w wr ([rowP 33 5 (.slice au j cu) j (rowC (upShs (partsN r b) row fs) (cv)), rowP 2 1 (.slice ag j cg) j (intC (upKeys (partsN r b) fs)), shsP (upShs (partsN r b) row fs) cv, blkP b4 33 #[.bool false, .bool false, .slice none 0 0, .slice none 0 0, .slice none 0 0]])) := Lib.hid (by
            have h := HQ.out.2.2
            rw [List.take_of_length_le (by rw [partsN_len, HK9.out]; exact Nat.le_refl _)] at h
            exact ⟨HQ.out.2.1, lv_end h⟩)
          clear HQ
          go_wp2_with fail
          refine ⟨⟨f', upShs (partsN r b) row fs, upKeys (partsN r b) fs, cv, au, cu, ag, cg, by rw [upShs_len, partsN_len, HK9.out], by rw [upShs_len, partsN_len, HK9.out], by rw [upShs_len, partsN_len, HK9.out]; exact hp2, by rw [upShs_len, partsN_len, HK9.out]; omega, by rw [upShs_len, partsN_len, HK9.out]; omega, Lib.hid ⟨HI.out.1, by rw [upShs_len, upKeys_len], by rw [upShs_len, partsN_len, HK9.out]; exact HX.out.1, ?_⟩⟩, by simp [lenV]; omega⟩
          rw [upShs_len, partsN_len, HK9.out]
          exact HX.out.2
      · obtain rfl : r = 1 := by omega
        obtain ⟨q1, q2, q3, H0⟩ := HQ.out
        obtain ⟨s0, rfl⟩ : ∃ x, row = [x] := by
          match row, hr with
          | [x], _ => exact ⟨x, rfl⟩
        obtain ⟨c0, rfl⟩ : ∃ x, cs = [x] := by
          match cs, q3 with
          | [x], _ => exact ⟨x, rfl⟩
        have hE : evenSh b ps = s0 := by
          rw [HFIN.out.2, ← q1]
          cases f with
          | zero => rfl
          | succ f => rw [evenUp, if_pos (by simp)]; rfl
        have H1 : Heap w wr ([rowP 33 5 (.slice ar 1 cr) 1 (rowC [s0] [c0]), rowP 2 1 (.slice ak 1 ck) 1 (intC fs), shsP [s0] [c0], blkP b4 33 #[.bool false, .bool false, .slice none 0 0, .slice none 0 0, .slice none 0 0]]) := H0
        have H2 : Heap w wr ([rowP 33 5 (.slice ar 1 cr) 1 (rowC [s0] [c0]), rowP 2 1 (.slice ak 1 ck) 1 (intC fs), shP s0 c0, blkP b4 33 #[.bool false, .bool false, .slice none 0 0, .slice none 0 0, .slice none 0 0]]) := H1.imp 2 (q := shP s0 c0) rfl (fun S hS => by
          have hS : ShsIn wr S [s0] [c0] := hS
          unfold ShsIn at hS
          exact hS.1)
        obtain ⟨k1, k2, k3, k4, k5, k6, rfl⟩ := H2.shForm 2 rfl
        obtain ⟨g1, rfl, hc1, hat⟩ := (H2.row 0 rfl).rdv.at (by decide)
        obtain ⟨v0, v1, v2, v3, v4⟩ := RdV.five (l := [(s0, ⟨.slice k1 s0.ps.length k2, .slice k3 s0.ks.length k4, .slice k5 s0.kids.length k6⟩)]) (H2.row 0 rfl).rdv (i := 0) rfl (by decide)
        rw [Nat.zero_mul, add_zero'] at v0 v1 v2 v3 v4
        have H3 := Lib.hid H2
        have B4 := H2.blk 3 (b := b4) (t := 33) (c := #[.bool false, .bool false, .slice none 0 0, .slice none 0 0, .slice none 0 0]) rfl
        have o0 := B4.cell 0
        have o1 := B4.cell 1
        have o2 := B4.cell 2
        have o3 := B4.cell 3
        have o4 := B4.cell 4
        have f0 := B4.froz 0
        have f1 := B4.froz 1
        have f2 := B4.froz 2
        have f3 := B4.froz 3
        have f4 := B4.froz 4
        have HX := ((((H2.setCell 3 rfl 0 (.bool s0.lf)).setCell 3 rfl 1 (.bool s0.tg)).setCell 3 rfl 2 (.slice k1 s0.ps.length k2)).setCell 3 rfl 3 (.slice k3 s0.ks.length k4)).setCell 3 rfl 4 (.slice k5 s0.kids.length k6)
        have BX := HX.blk 3 (b := b4) (t := 33) (c := #[.bool s0.lf, .bool s0.tg, .slice k1 s0.ps.length k2, .slice k3 s0.ks.length k4, .slice k5 s0.kids.length k6]) rfl
        have HX := Lib.hid HX
        have HBX := Lib.hid BX
        have HEV := Lib.hid hE
        clear HQ q1 q2 q3 H0 H1 H2 B4 BX hE hat H3 hr1 hr2 hrf hr hlt
        dsimp only at v2 v3 v4
        go_wp2_with fail
        have x0 := HBX.out.cell 0
        have x1 := HBX.out.cell 1
        have x2 := HBX.out.cell 2
        have x3 := HBX.out.cell 3
        have x4 := HBX.out.cell 4
        refine bodyPost_ret (v := .agg #[.bool s0.lf, .bool s0.tg, .slice k1 s0.ps.length k2, .slice k3 s0.ks.length k4, .slice k5 s0.kids.length k6]) (by simp [results, Try.results36, go_sem, x0, x1, x2, x3, x4]) rfl ?_
        refine ⟨⟨.slice k1 s0.ps.length k2, .slice k3 s0.ks.length k4, .slice k5 s0.kids.length k6⟩, by rw [HEV.out]; rfl, ?_⟩
        rw [HEV.out]
        exact Heap.first (l := [shP s0 ⟨.slice k1 s0.ps.length k2, .slice k3 s0.ks.length k4, .slice k5 s0.kids.length k6⟩]) HX.out.tailP.tailP
end Go.Proofs.Ytkbnoceekileiaa
