/- ThreadMany: the law's walk. No condition but that what is handed in can be read. -/
import Derived.Test.YtblijgdmfohfcaaThQ
import Derived.Test.YtblijgdmfohfcaaTcm
import Derived.Test.YtblijgdmfohfcaaK1
import Derived.Deep.DeepCutAuto
import Derived.Deep.CutRange
namespace Go.Proofs.Ytblijgdmfohfcaa
open Go Go.RowKit
set_option linter.unusedVariables false
set_option linter.unusedSimpArgs false
theorem info_pth : (Try.prog.info? 29).map (fun i => (i.zero, i.size, i.bytes)) = some (some (.pointer none), 1, 8) := by kernel_rfl
theorem info_prn : (Try.prog.info? 31).map (fun i => (i.zero, i.size, i.bytes)) = some (some (.pointer none), 1, 8) := by kernel_rfl
def tbV (o : O1) : Value := .pointer (some ⟨o.tb, 0, none⟩)
def rbV (o : O1) : Value := .pointer (some ⟨o.rb, 0, none⟩)
/-- The two cells, the two rows, what else there is. -/
def manyL (ca cb : Nat) (s : Ce) (lv wv : Value) (os : List O1) : List Piece := [cellP ca s, cellP cb s, rowP 29 1 lv os.length (os.map tbV), rowP 31 1 wv os.length (os.map rbV)] ++ os.map (opP ca)
/-- The operation goes back among the others. -/
theorem many_back {w0 z : World} {ca cb N i : Nat} {s : Ce} {lv wv : Value} {os : List O1} {o o' : O1} (ho : os[i]? = some o) (hN : os.length = N) (h1 : tbV o' = tbV o) (h2 : rbV o' = rbV o)
    (h : Heap w0 z ((cellP ca s :: (cellP cb s :: ([rowP 29 1 lv N (os.map tbV), rowP 31 1 wv N (os.map rbV)] ++ (os.map (opP ca)).set i nilP))) ++ o'.L ca)) : Heap w0 z (manyL ca cb s lv wv (os.set i o')) := by
  have hil : i < os.length := (List.getElem?_eq_some_iff.1 ho).1
  have e : cellP ca s :: (cellP cb s :: ([rowP 29 1 lv N (os.map tbV), rowP 31 1 wv N (os.map rbV)] ++ (os.map (opP ca)).set i nilP)) = (manyL ca cb s lv wv os).set (4 + i) nilP := by
    unfold manyL
    rw [List.set_append_right _ _ (by simp)]
    simp [hN]
  rw [e] at h
  have h3 := h.repack (by simp [manyL]; omega)
  have e1 : (os.set i o').map tbV = os.map tbV := by rw [List.map_set]; exact th_set_id _ _ _ (by rw [List.getElem?_map, ho, h1]; rfl)
  have e2 : (os.set i o').map rbV = os.map rbV := by rw [List.map_set]; exact th_set_id _ _ _ (by rw [List.getElem?_map, ho, h2]; rfl)
  have e3 : manyL ca cb s lv wv (os.set i o') = (manyL ca cb s lv wv os).set (4 + i) (manyP (o'.L ca)) := by
    unfold manyL
    rw [e1, e2, List.map_set, List.length_set, List.set_append_right _ _ (by simp)]
    simp [opP]
  rw [e3]
  exact h3
set_option maxHeartbeats 800000000 in
set_option maxRecDepth 100000 in
theorem ThreadMany_walk (v0 : Value) (qs : List Pg) (v1 : Value) (ys : List Int) (first : Int) (hfirst : -128 ≤ first ∧ first ≤ 127) (w : World) (R0 : RdV w v0 qs.length 1 (qs.map Pg.v)) (hq : ∀ x ∈ qs, x.ok w) (R1 : RdV w v1 ys.length 1 (ys.map (Value.int .u8))) (hy : ∀ n ∈ ys, (Lit.int .u8 n).wf = true) :
    Calls Try.prog 4 #[v0, v1, .int .i8 first] w fun e w' => e = .returned (.bool true) ∧ Below w.heap.size w w' := by
  have hm0 := R0.short
  have hm1 := R1.short
  unfold maxLen at hm0 hm1
  obtain ⟨a0, c0, rfl⟩ := R0.len
  obtain ⟨a1, c1, rfl⟩ := R1.len
  have HR0 := Lib.hid R0
  have HR1 := Lib.hid R1
  have HQ := Lib.hid hq
  have HY := Lib.hid hy
  clear R0 R1 hq hy
  obtain ⟨f0, f1⟩ := hfirst
  go_enter Try.func4, Try.ntmps4
  go_wp2_with fail
  refine (Awake_calls w _ (Fr.refl _ _)).mono ?_
  rintro e w1 ⟨rfl, F1⟩
  by_cases hn1 : qs.length < 1
  · go_wp2_with fail
    go_ret
    exact ⟨rfl, F1.below (Nat.le_refl _) (fun _ x => x.elim)⟩
  by_cases hn4 : 4 < qs.length
  · go_wp2_with fail
    go_ret
    exact ⟨rfl, F1.below (Nat.le_refl _) (fun _ x => x.elim)⟩
  by_cases hn80 : 80 < ys.length
  · go_wp2_with fail
    go_ret
    exact ⟨rfl, F1.below (Nat.le_refl _) (fun _ x => x.elim)⟩
  have H1 : Heap w w1 [] := (Heap.start w).go F1
  clear F1
  have HM := Lib.hid (And.intro hm0 hm1)
  clear hm0 hm1
  have H2 := (H1.newRowed 28 2 (ceC ⟨first, []⟩)).newRowed 28 2 (ceC ⟨first, []⟩)
  have hs : (w1.alloc (.cells (ceC ⟨first, []⟩ (.slice none 0 0)) 28)).heap.size = w1.heap.size + 1 := by simp
  rw [hs] at H2
  have H2 := (H2.rowNil 29 1).rowNil 31 1
  have H2 : Heap w ((w1.alloc (.cells #[.int .i64 first, .slice none 0 0] 28)).alloc (.cells #[.int .i64 first, .slice none 0 0] 28)) (manyL w1.heap.size (w1.heap.size + 1) ⟨first, []⟩ (.slice none 0 0) (.slice none 0 0) []) := H2
  have HH := Lib.hid H2
  clear H1 H2 hs
  go_upto_region 6 with fail
  generalize hca : w1.heap.size = ca at *
  generalize hcb : ca + 1 = cb at *
  clear hca hcb
  generalize (w1.alloc (.cells #[.int .i64 first, .slice none 0 0] 28)).alloc (.cells #[.int .i64 first, .slice none 0 0] 28) = w2 at *
  have hl0 : 0 < qs.length := by omega
  obtain ⟨b0, rfl, _, _⟩ := HR0.out.at hl0
  have HLN := Lib.hid (And.intro hn1 (And.intro hn4 hn80))
  clear hn1 hn4 hn80
  go_wp2_with fail
  go_loopw [9, 10, 41] (fun lv wv i wr => ∃ (os : List O1), i = .int .i64 (os.length : Nat) ∧ os.length ≤ qs.length ∧ Hid (∀ o ∈ os, o.ok w 0) ∧ Hid (Heap w wr (manyL ca cb ⟨first, []⟩ lv wv os))) (fun _ _ i _ => qs.length - (intOf i).toNat)
  case atStart => exact ⟨[], rfl, Nat.zero_le _, Lib.hid (by simp), HH⟩
  case round =>
    clear HH
    obtain ⟨os, rfl, hk, HO, HH⟩ := hrel
    by_cases hlt : os.length < qs.length
    · obtain ⟨⟨pv, ps⟩, hq0⟩ : ∃ q, qs[os.length]? = some q := ⟨_, List.getElem?_eq_getElem hlt⟩
      obtain ⟨qr, qt⟩ := HQ.out _ (List.mem_of_getElem? hq0)
      dsimp only at qr qt
      obtain ⟨qa, qc, rfl⟩ := qr.len
      obtain ⟨b9, e9, _, at9⟩ := (HR0.out.fr (S := nob) HH.out.fr (fun _ _ _ x => x)).at hl0
      obtain rfl := Option.some.inj e9
      have kq := at9 os.length (.slice qa ps.length qc) (by rw [List.getElem?_map, hq0]; rfl)
      have HQT := Lib.hid (And.intro qr qt)
      clear at9 hq0 qr qt e9
      by_cases hp1 : ps.length < 1
      · go_wp2_with fail
        go_ret
        exact ⟨rfl, HH.out.below⟩
      by_cases hp20 : 20 < ps.length
      · go_wp2_with fail
        go_ret
        exact ⟨rfl, HH.out.below⟩
      obtain ⟨la, lc, rfl, _, _⟩ := (HH.out.row 2 (t := 29) (sz := 1) (n := os.length) (us := os.map tbV) rfl).form
      obtain ⟨wa, wc, rfl, _, _⟩ := (HH.out.row 3 (t := 31) (sz := 1) (n := os.length) (us := os.map rbV) rfl).form
      obtain ⟨i0, hi0, hz0, hz1, hz2⟩ := info_parts info_pth
      have I0 := Lib.hid (And.intro hi0 (And.intro hz0 (And.intro hz1 hz2)))
      obtain ⟨j0, hj0, hw0, hw1, hw2⟩ := info_parts info_prn
      have J0 := Lib.hid (And.intro hj0 (And.intro hw0 (And.intro hw1 hw2)))
      have hlm' : os.length + 1 ≤ maxLen := by have := HLN.out.2.1; unfold maxLen; omega
      have hlb : (os.length + 1) * 8 ≤ 140737488355328 := by have := HLN.out.2.1; omega
      have HB := Lib.hid (And.intro hlm' hlb)
      clear hi0 hz0 hz1 hz2 hj0 hw0 hw1 hw2 hlm' hlb
      have HP := Lib.hid (And.intro hp1 hp20)
      go_wp2_with fail
      refine (Make_h HH.out ca qa ps.length qc).mono ?_
      rintro e w3 ⟨tb, A, B, rfl, H3⟩
      have Q3 := Lib.hid (H3.row 2 (t := 29) (sz := 1) (n := os.length) (v := .slice la os.length lc) (us := os.map tbV) rfl)
      have H3H := Lib.hid H3
      clear HH H3 hp1 hp20
      go_wp2_with (at_builtin; refine wpList_append_typed _ rfl _ _ _ (by rfl) 29 i0 (.pointer none) 1 8 Try.underlying41 I0.out.1 I0.out.2.1 I0.out.2.2.1 I0.out.2.2.2 rfl (by decide) (.slice la os.length lc) os.length (os.map tbV) (by rfl) (Q3.out.fr (F := nob) (by repeat (first | exact Fr.refl _ _ | apply Fr.drew | apply Fr.alloc)) (fun _ _ _ x => x)) _ 1 [.pointer (some ⟨tb, 0, none⟩)] (by rfl) (RdV.block (cs := #[.pointer (some ⟨tb, 0, none⟩)]) (t := 29) (by repeat (first | exact Blk.new' rfl _ _ | apply Blk.drew | apply Blk.alloc)) rfl (by decide)) (by simp [Value.oneCell']) HB.out.1 HB.out.2 ?_)
      intro a' c' w8 q' grow hat
      have H8 := H3H.out.growRow 2 (t := 29) (sz := 1) (n := os.length) (v := .slice la os.length lc) (us := os.map tbV) rfl (Fr.alloc (Fr.refl nob w3) (.cells #[.pointer (some ⟨tb, 0, none⟩)] 29)) q' grow (fun g hg => (hat g hg).imp_left (fun h => h.imp_right (fun h => by simpa using h)))
      have H9 := H8.newRowed 33 2 (rnC (.slice qa ps.length qc) ⟨0, []⟩)
      change Heap w (w8.alloc (.cells #[.slice qa ps.length qc, .int .i64 0, .slice none 0 0] 33)) _ at H9
      have Q9 := Lib.hid (H9.row 3 (t := 31) (sz := 1) (n := os.length) (v := .slice wa os.length wc) (us := os.map rbV) rfl)
      have H9H := Lib.hid H9
      clear H3H H8 H9 q' grow hat Q3
      go_wp2_with (at_builtin; refine wpList_append_typed _ rfl _ _ _ (by rfl) 31 j0 (.pointer none) 1 8 Try.underlying42 J0.out.1 J0.out.2.1 J0.out.2.2.1 J0.out.2.2.2 rfl (by decide) (.slice wa os.length wc) os.length (os.map rbV) (by rfl) (Q9.out.fr (F := nob) (Fr.alloc (Fr.refl nob _) _) (fun _ _ _ x => x)) _ 1 [.pointer (some ⟨w8.heap.size, 0, none⟩)] (by rfl) (RdV.block (cs := #[.pointer (some ⟨w8.heap.size, 0, none⟩)]) (t := 31) (Blk.new' (by simp) _ _) rfl (by decide)) (by simp [Value.oneCell']) HB.out.1 HB.out.2 ?_)
      intro a2 c2 w10 q2 grow2 hat2
      have H10 := H9H.out.growRow 3 (t := 31) (sz := 1) (n := os.length) (v := .slice wa os.length wc) (us := os.map rbV) rfl (Fr.alloc (Fr.refl nob _) (.cells #[.pointer (some ⟨w8.heap.size, 0, none⟩)] 31)) q2 grow2 (fun g hg => (hat2 g hg).imp_left (fun h => h.imp_right (fun h => by simpa using h)))
      have H11 : Heap w w10 (([cellP ca ⟨first, []⟩, cellP cb ⟨first, []⟩, rowP 29 1 (.slice a' (os.length + 1) c') (os.length + 1) (os.map tbV ++ [.pointer (some ⟨tb, 0, none⟩)]), rowP 31 1 (.slice a2 (os.length + 1) c2) (os.length + 1) (os.map rbV ++ [.pointer (some ⟨w8.heap.size, 0, none⟩)])] ++ os.map (opP ca)) ++ (⟨tb, A, B, w8.heap.size, .slice qa ps.length qc, ps, newTh (mkV A B), ⟨0, []⟩, []⟩ : O1).L ca) := by
        simpa [manyL, O1.L, O1.L4, runP] using H10
      have H12 := Lib.hid H11.pack
      clear H9H H10 H11 q2 grow2 hat2 Q9
      go_wp2_with fail
      have hq1 := HQT.out
      have hp := HP.out
      refine ⟨⟨os ++ [⟨tb, A, B, w8.heap.size, .slice qa ps.length qc, ps, newTh (mkV A B), ⟨0, []⟩, []⟩], by simp, by simp <;> omega, Lib.hid (fun o ho => ?_), Lib.hid ?_⟩, by simp [intOf] <;> omega⟩
      · rcases List.mem_append.1 ho with ho | ho
        · exact HO.out o ho
        · obtain rfl := List.mem_singleton.1 ho
          exact ⟨rfl, rfl, RunI.start ps, hq1.1, hq1.2, by dsimp only; omega, ⟨Nat.le_refl _, Nat.le_refl _⟩, fun _ => ⟨by dsimp only; omega, rfl⟩, fun x => by cases x⟩
      · have := H12.out
        simpa [manyL, tbV, rbV, opP] using this
    · have hlen : os.length = qs.length := by omega
      obtain ⟨la, lc, rfl, _, _⟩ := (HH.out.row 2 (t := 29) (sz := 1) (n := os.length) (us := os.map tbV) rfl).form
      obtain ⟨wa, wc, rfl, _, _⟩ := (HH.out.row 3 (t := 31) (sz := 1) (n := os.length) (us := os.map rbV) rfl).form
      obtain ⟨la, rfl, _, _⟩ := (HH.out.row 2 (t := 29) (sz := 1) (n := os.length) (us := os.map tbV) rfl).rdv.at (by omega)
      obtain ⟨wa, rfl, _, _⟩ := (HH.out.row 3 (t := 31) (sz := 1) (n := os.length) (us := os.map rbV) rfl).rdv.at (by omega)
      generalize hN : os.length = N at *
      have HN := Lib.hid hN
      have hN0 : 0 < N ∧ N ≤ 4 := by have := HLN.out; omega
      have HN0 := Lib.hid hN0
      have hnlt : ¬ N < qs.length := hlt
      clear hlen hk hN hlt hN0
      rename World => wq
      go_wp2_with fail
      go_loopw [68] (fun i wr => ∃ (k : Nat) (s : Ce) (os : List O1), i = .int .i64 (k : Nat) ∧ k ≤ ys.length ∧ Hid (os.length = N ∧ s.log.length ≤ 3 * k) ∧ Hid (∀ o ∈ os, o.ok w k) ∧ Hid (Heap w wr (manyL ca cb s (.slice (some la) N lc) (.slice (some wa) N wc) os))) (fun i _ => ys.length - (intOf i).toNat)
      case atStart => exact ⟨0, ⟨first, []⟩, os, rfl, Nat.zero_le _, Lib.hid ⟨HN.out, Nat.zero_le _⟩, HO, by have := HH; simpa only [HN.out] using this⟩
      case round =>
        clear HH HO
        obtain ⟨k, s, os, rfl, hk, HL, HO, HH⟩ := hrel
        by_cases hlt : k < ys.length
        · obtain ⟨x, hx0⟩ : ∃ x, ys[k]? = some x := ⟨_, List.getElem?_eq_getElem hlt⟩
          have hx := bounds_u8 (HY.out x (List.mem_of_getElem? hx0))
          obtain ⟨b1, rfl, _, at9⟩ := (HR1.out.fr (S := nob) HH.out.fr (fun _ _ _ x => x)).at (by omega)
          have ky := at9 k (.int .u8 x) (by rw [List.getElem?_map, hx0]; rfl)
          obtain ⟨hol, hsl⟩ := HL.out
          obtain ⟨i, hi⟩ : ∃ i : Nat, i = x.toNat % N := ⟨_, rfl⟩
          have hiN : i < N := by rw [hi]; exact Nat.mod_lt _ HN0.out.1
          obtain ⟨o, ho⟩ : ∃ o, os[i]? = some o := ⟨_, List.getElem?_eq_getElem (by omega)⟩
          clear at9 hx0
          obtain ⟨y, rfl⟩ : ∃ y : Nat, x = (y : Nat) := ⟨x.toNat, by omega⟩
          have hiy : ((y : Int) % (N : Int)) = (i : Nat) := by rw [hi]; simp
          go_upto_region 19 with fail
          rw [hiy]
          clear hiy hi hx
          -- the thread of this Step, laid open
          have hil : i < os.length := (List.getElem?_eq_some_iff.1 ho).1
          have HU := HH.out.unpack (4 + i) (m := o.L ca) (by unfold manyL; rw [List.getElem?_append_right (by simp)]; simp [ho, opP])
          have HU1 : Heap w wr ((cellP ca s :: (cellP cb s :: ([rowP 29 1 (.slice (some la) N lc) N (os.map tbV), rowP 31 1 (.slice (some wa) N wc) N (os.map rbV)] ++ (os.map (opP ca)).set i nilP))) ++ o.L ca) := by
            have e : (manyL ca cb s (.slice (some la) N lc) (.slice (some wa) N wc) os).set (4 + i) nilP = cellP ca s :: (cellP cb s :: ([rowP 29 1 (.slice (some la) N lc) N (os.map tbV), rowP 31 1 (.slice (some wa) N wc) N (os.map rbV)] ++ (os.map (opP ca)).set i nilP)) := by
              unfold manyL
              rw [List.set_append_right _ _ (by simp)]
              simp [hol]
            rw [e] at HU
            exact HU
          have HM' : ∃ M : List Piece, (os.map (opP ca)).set i nilP = M := ⟨_, rfl⟩
          obtain ⟨M, hM⟩ := HM'
          rw [hM] at HU1
          have HMM := Lib.hid hM
          have HHH := Lib.hid (And.intro hol hsl)
          have HOO := Lib.hid ho
          have ook := HO.out o (List.mem_of_getElem? ho)
          have hk80 : k ≤ 80 := by have := HLN.out; omega
          have CS := Step_op (M := cellP cb s :: ([rowP 29 1 (.slice (some la) N lc) N (os.map tbV), rowP 31 1 (.slice (some wa) N wc) N (os.map rbV)] ++ M)) HU1.drew ook (by omega) (by omega)
          have CN := fun z T' Z' (hz : Heap w z ((cellP ca (rnNext o.ps o.R s).2.2 :: cellP cb s :: ([rowP 29 1 (.slice (some la) N lc) N (os.map tbV), rowP 31 1 (.slice (some wa) N wc) N (os.map rbV)] ++ M)) ++ ({ o with T := T', Z := Z' } : O1).L ca)) => Next_op hz ook.tc ook.rd ook.len ook.few (by omega) (by omega)
          have hfew := rnNext_few o.ps o.R s
          dsimp only at CS CN hfew
          generalize rnNext o.ps o.R s = r at *
          obtain ⟨d, R', s'⟩ := r
          dsimp only at CS CN hfew
          have CCS := Lib.hid CS
          have CCN := Lib.hid CN
          have HF := Lib.hid hfew
          -- the two rows' cells
          have KL : ∀ z c1 c2 X, Heap w z ((c1 :: c2 :: ([rowP 29 1 (.slice (some la) N lc) N (os.map tbV), rowP 31 1 (.slice (some wa) N wc) N (os.map rbV)] ++ M)) ++ X) → z.cell? (la.add i) = some (.pointer (some ⟨o.tb, 0, none⟩)) ∧ z.cell? (wa.add i) = some (.pointer (some ⟨o.rb, 0, none⟩)) := fun z c1 c2 X hz => by
            obtain ⟨g1, e1, _, h1⟩ := (hz.row 2 (t := 29) (sz := 1) (n := N) (v := .slice (some la) N lc) (us := os.map tbV) rfl).rdv.at HN0.out.1
            obtain ⟨g2, e2, _, h2⟩ := (hz.row 3 (t := 31) (sz := 1) (n := N) (v := .slice (some wa) N wc) (us := os.map rbV) rfl).rdv.at HN0.out.1
            obtain rfl := Option.some.inj e1
            obtain rfl := Option.some.inj e2
            exact ⟨h1 i _ (by rw [List.getElem?_map, HOO.out]; rfl), h2 i _ (by rw [List.getElem?_map, HOO.out]; rfl)⟩
          have KK := Lib.hid KL
          have q0 : wr.drew.cell? (la.add i) = some (.pointer (some ⟨o.tb, 0, none⟩)) ∧ wr.drew.cell? (wa.add i) = some (.pointer (some ⟨o.rb, 0, none⟩)) := KL _ _ _ _ HU1.drew
          clear CS CN hfew HU HU1 HH hM hol hsl KL ho hil ook
          go_cut [116] from 77 to 116 (fun s116 wx => s116 = .bool false ∧ Hid (∃ T' Z', Heap w wx ((cellP ca s' :: cellP cb s' :: ([rowP 29 1 (.slice (some la) N lc) N (os.map tbV), rowP 31 1 (.slice (some wa) N wc) N (os.map rbV)] ++ M)) ++ ({ o with T := T', Z := Z', R := R' } : O1).L ca) ∧ ({ o with T := T', Z := Z', R := R' } : O1).ok w (k + 1) ∧ T'.done = d))
          case first =>
            cases d
            · refine wp_region_noPanic ?_
              refine AnyK.start (ks := [10, 11, 12, 13, 14, 15, 16, 17, 18, 19, 20, 21, 22, 23, 24, 25, 26, 27, 28, 29, 30, 31, 32, 33, 34, 35, 36, 37, 38, 39]) (S := fun w' => w'.cell? (la.add i) = some (.pointer (some ⟨o.tb, 0, none⟩)) ∧ w'.cell? (wa.add i) = some (.pointer (some ⟨o.rb, 0, none⟩))) (by kernel_rfl) (by exact q0) (fun _ => ?_)
              refine AnyK.takeB (i := 0) (v := ?_) rfl (by kernel_rfl) (by kernel_rfl) (by kernel_rfl) (by kernel_rfl) (fun _ _ _ h => h) (Or.inl ⟨by kernel_rfl, ?_⟩) (by exact q0) ?_
              rotate_left
              focus
                intro w9 hSw
                try dsimp only at hSw
                go_simp
                try with_reducible rfl
              try simp only [Act.put, List.setIfInBounds_toArray, List.set_cons_zero, List.set_cons_succ]
              refine AnyK.takeB (i := 1) (v := ?_) rfl (by kernel_rfl) (by kernel_rfl) (by kernel_rfl) (by kernel_rfl) (fun _ _ _ h => h) (Or.inl ⟨by kernel_rfl, ?_⟩) (by exact q0) ?_
              rotate_left
              focus
                intro w9 hSw
                try dsimp only at hSw
                go_simp
                try with_reducible rfl
              try simp only [Act.put, List.setIfInBounds_toArray, List.set_cons_zero, List.set_cons_succ]
              refine AnyK.takeB (i := 2) (v := ?_) rfl (by kernel_rfl) (by kernel_rfl) (by kernel_rfl) (by kernel_rfl) (fun _ _ _ h => h) (Or.inl ⟨by kernel_rfl, ?_⟩) (by exact q0) ?_
              rotate_left
              focus
                intro w9 hSw
                try dsimp only at hSw
                go_simp
                try with_reducible rfl
              try simp only [Act.put, List.setIfInBounds_toArray, List.set_cons_zero, List.set_cons_succ]
              refine AnyK.takeB (i := 3) (v := ?_) rfl (by kernel_rfl) (by kernel_rfl) (by kernel_rfl) (by kernel_rfl) (fun _ _ _ h => h) (Or.inl ⟨by kernel_rfl, ?_⟩) (by exact q0) ?_
              rotate_left
              focus
                intro w9 hSw
                try dsimp only at hSw
                go_simp
                try with_reducible rfl
              try simp only [Act.put, List.setIfInBounds_toArray, List.set_cons_zero, List.set_cons_succ]
              refine AnyK.takeB (i := 5) (v := ?_) rfl (by kernel_rfl) (by kernel_rfl) (by kernel_rfl) (by kernel_rfl) (fun _ _ _ h => h) (Or.inl ⟨by kernel_rfl, ?_⟩) (by exact q0) ?_
              rotate_left
              focus
                intro w9 hSw
                try dsimp only at hSw
                go_simp
                try with_reducible rfl
              try simp only [Act.put, List.setIfInBounds_toArray, List.set_cons_zero, List.set_cons_succ]
              refine AnyK.takeB (i := 6) (v := ?_) rfl (by kernel_rfl) (by kernel_rfl) (by kernel_rfl) (by kernel_rfl) (fun _ _ _ h => h) (Or.inl ⟨by kernel_rfl, ?_⟩) (by exact q0) ?_
              rotate_left
              focus
                intro w9 hSw
                try dsimp only at hSw
                go_simp
                try with_reducible rfl
              try simp only [Act.put, List.setIfInBounds_toArray, List.set_cons_zero, List.set_cons_succ]
              refine AnyK.takeB (i := 7) (v := ?_) rfl (by kernel_rfl) (by kernel_rfl) (by kernel_rfl) (by kernel_rfl) (fun _ _ _ h => h) (Or.inl ⟨by kernel_rfl, ?_⟩) (by exact q0) ?_
              rotate_left
              focus
                intro w9 hSw
                try dsimp only at hSw
                go_simp
                try with_reducible rfl
              try simp only [Act.put, List.setIfInBounds_toArray, List.set_cons_zero, List.set_cons_succ]
              refine AnyK.takeB (i := 8) (v := ?_) rfl (by kernel_rfl) (by kernel_rfl) (by kernel_rfl) (by kernel_rfl) (fun _ _ _ h => h) (Or.inl ⟨by kernel_rfl, ?_⟩) (by exact q0) ?_
              rotate_left
              focus
                intro w9 hSw
                try dsimp only at hSw
                go_simp
                try with_reducible rfl
              try simp only [Act.put, List.setIfInBounds_toArray, List.set_cons_zero, List.set_cons_succ]
              refine AnyK.takeB (i := 9) (v := ?_) rfl (by kernel_rfl) (by kernel_rfl) (by kernel_rfl) (by kernel_rfl) (fun _ _ _ h => h) (Or.inl ⟨by kernel_rfl, ?_⟩) (by exact q0) ?_
              rotate_left
              focus
                intro w9 hSw
                try dsimp only at hSw
                go_simp
                try with_reducible rfl
              try simp only [Act.put, List.setIfInBounds_toArray, List.set_cons_zero, List.set_cons_succ]
              refine AnyK.one (i := 4) (by kernel_rfl) rfl (fun K9 hK9 => ?_)
              go_simp
              refine CCS.out.mono ?_
              rintro e z1 ⟨T', Z', rfl, H1, OK', hTd⟩
              have q1 := KK.out _ _ _ _ H1
              refine hK9.out _ _ (fun _ => q1) ?_
              clear hK9 K9
              try simp only [Act.put, List.setIfInBounds_toArray, List.set_cons_zero, List.set_cons_succ]
              refine AnyK.one (i := 10) (by kernel_rfl) rfl (fun K9 hK9 => ?_)
              go_simp
              refine (CCN.out _ T' Z' H1).mono ?_
              rintro e z2 ⟨rfl, H2⟩
              refine hK9.out _ _ (fun hx => absurd (by decide) hx) ?_
              clear hK9 K9
              try simp only [Act.put, List.setIfInBounds_toArray, List.set_cons_zero, List.set_cons_succ]
              obtain ⟨l1, l2⟩ := KK.out _ _ _ _ H2
              obtain ⟨xa, xc, _, c1, RA⟩ := cell_op H2 0 rfl
              obtain ⟨ya, yc, _, d1, RB⟩ := cell_op H2 1 rfl
              obtain ⟨ra, rc, r1, RT⟩ := told_op H2
              have QS : Hid (∀ z, Fr nob z2 z → z.cell? (la.add i) = some (.pointer (some ⟨o.tb, 0, none⟩)) ∧ z.cell? (wa.add i) = some (.pointer (some ⟨o.rb, 0, none⟩)) ∧ z.cell? ⟨ca, 1, none⟩ = some (.slice xa s'.log.length xc) ∧ z.cell? ⟨cb, 1, none⟩ = some (.slice ya s'.log.length yc) ∧ z.cell? ⟨o.rb, 2, none⟩ = some (.slice ra R'.told.length rc)) := Lib.hid (fun z hz => ⟨hz.cell' l1 (fun x => x), hz.cell' l2 (fun x => x), hz.cell' c1 (fun x => x), hz.cell' d1 (fun x => x), hz.cell' r1 (fun x => x)⟩)
              have qs := QS.out z2 (Fr.refl _ _)
              have ST := Lib.hid (fun z (hz : Fr nob z2 z) => Steps_op (H2.go hz))
              have hlg : T'.log.length = R'.told.length := by rw [OK'.log]
              have HLG := Lib.hid hlg
              have DN := Lib.hid (fun z (hz : Fr nob z2 z) => Done_op (H2.go hz) OK'.work)
              have RAB := Lib.hid (And.intro RA (And.intro RB RT))
              have H2H := Lib.hid H2
              have OKK := Lib.hid OK'
              have HTD := Lib.hid hTd
              clear H1 H2 RA RB RT OK' hTd l1 l2 c1 d1 r1 hlg CCS CCN q0 q1
              refine AnyK.phase (S' := fun w' => w'.cell? (la.add i) = some (.pointer (some ⟨o.tb, 0, none⟩)) ∧ w'.cell? (wa.add i) = some (.pointer (some ⟨o.rb, 0, none⟩)) ∧ w'.cell? ⟨ca, 1, none⟩ = some (.slice xa s'.log.length xc) ∧ w'.cell? ⟨cb, 1, none⟩ = some (.slice ya s'.log.length yc) ∧ w'.cell? ⟨o.rb, 2, none⟩ = some (.slice ra R'.told.length rc)) (ks' := []) (by kernel_rfl) ?_
              refine AnyK.take (i := 11) (v := ?_) rfl (by kernel_rfl) (by kernel_rfl) (by kernel_rfl) (by kernel_rfl) (fun _ _ _ h => h) (Or.inl ⟨by kernel_rfl, ?_⟩) (by exact qs) ?_
              rotate_left
              focus
                intro w9 hSw
                try dsimp only at hSw
                go_simp
                try with_reducible rfl
              try simp only [Act.put, List.setIfInBounds_toArray, List.set_cons_zero, List.set_cons_succ]
              refine AnyK.take (i := 12) (v := ?_) rfl (by kernel_rfl) (by kernel_rfl) (by kernel_rfl) (by kernel_rfl) (fun _ _ _ h => h) (Or.inl ⟨by kernel_rfl, ?_⟩) (by exact qs) ?_
              rotate_left
              focus
                intro w9 hSw
                try dsimp only at hSw
                go_simp
                try with_reducible rfl
              try simp only [Act.put, List.setIfInBounds_toArray, List.set_cons_zero, List.set_cons_succ]
              refine AnyK.take (i := 13) (v := ?_) rfl (by kernel_rfl) (by kernel_rfl) (by kernel_rfl) (by kernel_rfl) (fun _ _ _ h => h) (Or.inl ⟨by kernel_rfl, ?_⟩) (by exact qs) ?_
              rotate_left
              focus
                intro w9 hSw
                try dsimp only at hSw
                go_simp
                try with_reducible rfl
              try simp only [Act.put, List.setIfInBounds_toArray, List.set_cons_zero, List.set_cons_succ]
              refine AnyK.take (i := 14) (v := ?_) rfl (by kernel_rfl) (by kernel_rfl) (by kernel_rfl) (by kernel_rfl) (fun _ _ _ h => h) (Or.inl ⟨by kernel_rfl, ?_⟩) (by exact qs) ?_
              rotate_left
              focus
                intro w9 hSw
                try dsimp only at hSw
                go_simp
                try with_reducible rfl
              try simp only [Act.put, List.setIfInBounds_toArray, List.set_cons_zero, List.set_cons_succ]
              refine AnyK.take (i := 15) (v := ?_) rfl (by kernel_rfl) (by kernel_rfl) (by kernel_rfl) (by kernel_rfl) (fun _ _ _ h => h) (Or.inl ⟨by kernel_rfl, ?_⟩) (by exact qs) ?_
              rotate_left
              focus
                intro w9 hSw
                try dsimp only at hSw
                go_simp
                try with_reducible rfl
              try simp only [Act.put, List.setIfInBounds_toArray, List.set_cons_zero, List.set_cons_succ]
              refine AnyK.take (i := 16) (v := ?_) rfl (by kernel_rfl) (by kernel_rfl) (by kernel_rfl) (by kernel_rfl) (fun _ _ _ h => h) (Or.inl ⟨by kernel_rfl, ?_⟩) (by exact qs) ?_
              rotate_left
              focus
                intro w9 hSw
                try dsimp only at hSw
                go_simp
                try with_reducible rfl
              try simp only [Act.put, List.setIfInBounds_toArray, List.set_cons_zero, List.set_cons_succ]
              refine AnyK.take (i := 17) (v := ?_) rfl (by kernel_rfl) (by kernel_rfl) (by kernel_rfl) (by kernel_rfl) (fun _ _ _ h => h) (Or.inl ⟨by kernel_rfl, ?_⟩) (by exact qs) ?_
              rotate_left
              focus
                intro w9 hSw
                try dsimp only at hSw
                go_simp
                try with_reducible rfl
              try simp only [Act.put, List.setIfInBounds_toArray, List.set_cons_zero, List.set_cons_succ]
              refine AnyK.take (i := 18) (v := ?_) rfl (by kernel_rfl) (by kernel_rfl) (by kernel_rfl) (by kernel_rfl) (fun _ _ _ h => h) (Or.inl ⟨by kernel_rfl, ?_⟩) (by exact qs) ?_
              rotate_left
              focus
                intro w9 hSw
                try dsimp only at hSw
                go_simp
                try with_reducible rfl
              try simp only [Act.put, List.setIfInBounds_toArray, List.set_cons_zero, List.set_cons_succ]
              refine AnyK.take (i := 19) (v := ?_) rfl (by kernel_rfl) (by kernel_rfl) (by kernel_rfl) (by kernel_rfl) (fun _ _ _ h => h) (Or.inl ⟨by kernel_rfl, ?_⟩) (by exact qs) ?_
              rotate_left
              focus
                intro w9 hSw
                try dsimp only at hSw
                go_simp
                try with_reducible rfl
              try simp only [Act.put, List.setIfInBounds_toArray, List.set_cons_zero, List.set_cons_succ]
              refine AnyK.take (i := 20) (v := ?_) rfl (by kernel_rfl) (by kernel_rfl) (by kernel_rfl) (by kernel_rfl) (fun _ _ _ h => h) (Or.inl ⟨by kernel_rfl, ?_⟩) (by exact qs) ?_
              rotate_left
              focus
                intro w9 hSw
                try dsimp only at hSw
                go_simp
                try with_reducible rfl
              try simp only [Act.put, List.setIfInBounds_toArray, List.set_cons_zero, List.set_cons_succ]
              refine AnyK.one (i := 21) (by kernel_rfl) rfl (fun K9 hK9 => ?_)
              go_simp
              refine (same_yes _ _ s'.log _ RAB.out.1 RAB.out.2.1).mono ?_
              rintro e z3 ⟨rfl, F3⟩
              have q3 := QS.out z3 F3
              refine hK9.out _ _ (fun _ => q3) ?_
              clear hK9 K9
              try simp only [Act.put, List.setIfInBounds_toArray, List.set_cons_zero, List.set_cons_succ]
              refine AnyK.take (i := 22) (v := ?_) rfl (by kernel_rfl) (by kernel_rfl) (by kernel_rfl) (by kernel_rfl) (fun _ _ _ h => h) (Or.inl ⟨by kernel_rfl, ?_⟩) (by exact q3) ?_
              rotate_left
              focus
                intro w9 hSw
                try dsimp only at hSw
                go_simp
                try with_reducible rfl
              try simp only [Act.put, List.setIfInBounds_toArray, List.set_cons_zero, List.set_cons_succ]
              refine AnyK.take (i := 23) (v := ?_) rfl (by kernel_rfl) (by kernel_rfl) (by kernel_rfl) (by kernel_rfl) (fun _ _ _ h => h) (Or.inl ⟨by kernel_rfl, ?_⟩) (by exact q3) ?_
              rotate_left
              focus
                intro w9 hSw
                try dsimp only at hSw
                go_simp
                try with_reducible rfl
              try simp only [Act.put, List.setIfInBounds_toArray, List.set_cons_zero, List.set_cons_succ]
              refine AnyK.take (i := 24) (v := ?_) rfl (by kernel_rfl) (by kernel_rfl) (by kernel_rfl) (by kernel_rfl) (fun _ _ _ h => h) (Or.inl ⟨by kernel_rfl, ?_⟩) (by exact q3) ?_
              rotate_left
              focus
                intro w9 hSw
                try dsimp only at hSw
                go_simp
                try with_reducible rfl
              try simp only [Act.put, List.setIfInBounds_toArray, List.set_cons_zero, List.set_cons_succ]
              refine AnyK.take (i := 25) (v := ?_) rfl (by kernel_rfl) (by kernel_rfl) (by kernel_rfl) (by kernel_rfl) (fun _ _ _ h => h) (Or.inl ⟨by kernel_rfl, ?_⟩) (by exact q3) ?_
              rotate_left
              focus
                intro w9 hSw
                try dsimp only at hSw
                go_simp
                try with_reducible rfl
              try simp only [Act.put, List.setIfInBounds_toArray, List.set_cons_zero, List.set_cons_succ]
              refine AnyK.take (i := 26) (v := ?_) rfl (by kernel_rfl) (by kernel_rfl) (by kernel_rfl) (by kernel_rfl) (fun _ _ _ h => h) (Or.inl ⟨by kernel_rfl, ?_⟩) (by exact q3) ?_
              rotate_left
              focus
                intro w9 hSw
                try dsimp only at hSw
                go_simp
                try with_reducible rfl
              try simp only [Act.put, List.setIfInBounds_toArray, List.set_cons_zero, List.set_cons_succ]
              refine AnyK.take (i := 27) (v := ?_) rfl (by kernel_rfl) (by kernel_rfl) (by kernel_rfl) (by kernel_rfl) (fun _ _ _ h => h) (Or.inl ⟨by kernel_rfl, ?_⟩) (by exact q3) ?_
              rotate_left
              focus
                intro w9 hSw
                try dsimp only at hSw
                go_simp
                try with_reducible rfl
              try simp only [Act.put, List.setIfInBounds_toArray, List.set_cons_zero, List.set_cons_succ]
              refine AnyK.take (i := 28) (v := ?_) rfl (by kernel_rfl) (by kernel_rfl) (by kernel_rfl) (by kernel_rfl) (fun _ _ _ h => h) (Or.inl ⟨by kernel_rfl, ?_⟩) (by exact q3) ?_
              rotate_left
              focus
                intro w9 hSw
                try dsimp only at hSw
                go_simp
                try with_reducible rfl
              try simp only [Act.put, List.setIfInBounds_toArray, List.set_cons_zero, List.set_cons_succ]
              refine AnyK.take (i := 30) (v := ?_) rfl (by kernel_rfl) (by kernel_rfl) (by kernel_rfl) (by kernel_rfl) (fun _ _ _ h => h) (Or.inl ⟨by kernel_rfl, ?_⟩) (by exact q3) ?_
              rotate_left
              focus
                intro w9 hSw
                try dsimp only at hSw
                go_simp
                try with_reducible rfl
              try simp only [Act.put, List.setIfInBounds_toArray, List.set_cons_zero, List.set_cons_succ]
              refine AnyK.take (i := 31) (v := ?_) rfl (by kernel_rfl) (by kernel_rfl) (by kernel_rfl) (by kernel_rfl) (fun _ _ _ h => h) (Or.inl ⟨by kernel_rfl, ?_⟩) (by exact q3) ?_
              rotate_left
              focus
                intro w9 hSw
                try dsimp only at hSw
                go_simp
                try with_reducible rfl
              try simp only [Act.put, List.setIfInBounds_toArray, List.set_cons_zero, List.set_cons_succ]
              refine AnyK.take (i := 32) (v := ?_) rfl (by kernel_rfl) (by kernel_rfl) (by kernel_rfl) (by kernel_rfl) (fun _ _ _ h => h) (Or.inl ⟨by kernel_rfl, ?_⟩) (by exact q3) ?_
              rotate_left
              focus
                intro w9 hSw
                try dsimp only at hSw
                go_simp
                try with_reducible rfl
              try simp only [Act.put, List.setIfInBounds_toArray, List.set_cons_zero, List.set_cons_succ]
              refine AnyK.take (i := 33) (v := ?_) rfl (by kernel_rfl) (by kernel_rfl) (by kernel_rfl) (by kernel_rfl) (fun _ _ _ h => h) (Or.inl ⟨by kernel_rfl, ?_⟩) (by exact q3) ?_
              rotate_left
              focus
                intro w9 hSw
                try dsimp only at hSw
                go_simp
                try with_reducible rfl
              try simp only [Act.put, List.setIfInBounds_toArray, List.set_cons_zero, List.set_cons_succ]
              refine AnyK.take (i := 34) (v := ?_) rfl (by kernel_rfl) (by kernel_rfl) (by kernel_rfl) (by kernel_rfl) (fun _ _ _ h => h) (Or.inl ⟨by kernel_rfl, ?_⟩) (by exact q3) ?_
              rotate_left
              focus
                intro w9 hSw
                try dsimp only at hSw
                go_simp
                try with_reducible rfl
              try simp only [Act.put, List.setIfInBounds_toArray, List.set_cons_zero, List.set_cons_succ]
              refine AnyK.take (i := 35) (v := ?_) rfl (by kernel_rfl) (by kernel_rfl) (by kernel_rfl) (by kernel_rfl) (fun _ _ _ h => h) (Or.inl ⟨by kernel_rfl, ?_⟩) (by exact q3) ?_
              rotate_left
              focus
                intro w9 hSw
                try dsimp only at hSw
                go_simp
                try with_reducible rfl
              try simp only [Act.put, List.setIfInBounds_toArray, List.set_cons_zero, List.set_cons_succ]
              refine AnyK.take (i := 36) (v := ?_) rfl (by kernel_rfl) (by kernel_rfl) (by kernel_rfl) (by kernel_rfl) (fun _ _ _ h => h) (Or.inl ⟨by kernel_rfl, ?_⟩) (by exact q3) ?_
              rotate_left
              focus
                intro w9 hSw
                try dsimp only at hSw
                go_simp
                try with_reducible rfl
              try simp only [Act.put, List.setIfInBounds_toArray, List.set_cons_zero, List.set_cons_succ]
              refine AnyK.take (i := 37) (v := ?_) rfl (by kernel_rfl) (by kernel_rfl) (by kernel_rfl) (by kernel_rfl) (fun _ _ _ h => h) (Or.inl ⟨by kernel_rfl, ?_⟩) (by exact q3) ?_
              rotate_left
              focus
                intro w9 hSw
                try dsimp only at hSw
                go_simp
                try with_reducible rfl
              try simp only [Act.put, List.setIfInBounds_toArray, List.set_cons_zero, List.set_cons_succ]
              refine AnyK.one (i := 29) (by kernel_rfl) rfl (fun K9 hK9 => ?_)
              go_simp
              refine (ST.out z3 F3).mono ?_
              rintro e w' ⟨rfl, hw⟩
              have hw := hw.symm
              subst hw
              refine hK9.out _ _ (fun _ => q3) ?_
              clear hK9 K9
              try simp only [Act.put, List.setIfInBounds_toArray, List.set_cons_zero, List.set_cons_succ]
              try dsimp only
              rw [HLG.out]
              refine AnyK.one (i := 38) (by kernel_rfl) rfl (fun K9 hK9 => ?_)
              go_simp
              refine hK9.out _ _ (fun _ => q3) ?_
              clear hK9 K9
              try simp only [Act.put, List.setIfInBounds_toArray, List.set_cons_zero, List.set_cons_succ]
              refine AnyK.one (i := 39) (by kernel_rfl) rfl (fun K9 hK9 => ?_)
              go_simp
              refine hK9.out _ _ (fun _ => q3) ?_
              clear hK9 K9
              try simp only [Act.put, List.setIfInBounds_toArray, List.set_cons_zero, List.set_cons_succ]
              refine AnyK.done (by kernel_rfl) ?_ _
              refine NoPanic.normal ?_
              have HXX : Hid (∃ T' Z', Heap w z3 ((cellP ca s' :: cellP cb s' :: ([rowP 29 1 (.slice (some la) N lc) N (os.map tbV), rowP 31 1 (.slice (some wa) N wc) N (os.map rbV)] ++ M)) ++ ({ o with T := T', Z := Z', R := R' } : O1).L ca) ∧ ({ o with T := T', Z := Z', R := R' } : O1).ok w (k + 1) ∧ T'.done = false) := Lib.hid ⟨T', Z', H2H.out.go F3, OKK.out, HTD.out⟩
              clear H2H OKK HTD DN ST RAB QS HLG qs q3
              go_wp2_with fail
              go_meet
              exact ⟨rfl, HXX⟩
            · refine wp_region_noPanic ?_
              refine AnyK.start (ks := [10, 11, 12, 13, 14, 15, 16, 17, 18, 19, 20, 21, 22, 23, 24, 25, 26, 27, 28, 29, 30, 31, 32, 33, 34, 35, 36, 37, 38, 39]) (S := fun w' => w'.cell? (la.add i) = some (.pointer (some ⟨o.tb, 0, none⟩)) ∧ w'.cell? (wa.add i) = some (.pointer (some ⟨o.rb, 0, none⟩))) (by kernel_rfl) (by exact q0) (fun _ => ?_)
              refine AnyK.takeB (i := 0) (v := ?_) rfl (by kernel_rfl) (by kernel_rfl) (by kernel_rfl) (by kernel_rfl) (fun _ _ _ h => h) (Or.inl ⟨by kernel_rfl, ?_⟩) (by exact q0) ?_
              rotate_left
              focus
                intro w9 hSw
                try dsimp only at hSw
                go_simp
                try with_reducible rfl
              try simp only [Act.put, List.setIfInBounds_toArray, List.set_cons_zero, List.set_cons_succ]
              refine AnyK.takeB (i := 1) (v := ?_) rfl (by kernel_rfl) (by kernel_rfl) (by kernel_rfl) (by kernel_rfl) (fun _ _ _ h => h) (Or.inl ⟨by kernel_rfl, ?_⟩) (by exact q0) ?_
              rotate_left
              focus
                intro w9 hSw
                try dsimp only at hSw
                go_simp
                try with_reducible rfl
              try simp only [Act.put, List.setIfInBounds_toArray, List.set_cons_zero, List.set_cons_succ]
              refine AnyK.takeB (i := 2) (v := ?_) rfl (by kernel_rfl) (by kernel_rfl) (by kernel_rfl) (by kernel_rfl) (fun _ _ _ h => h) (Or.inl ⟨by kernel_rfl, ?_⟩) (by exact q0) ?_
              rotate_left
              focus
                intro w9 hSw
                try dsimp only at hSw
                go_simp
                try with_reducible rfl
              try simp only [Act.put, List.setIfInBounds_toArray, List.set_cons_zero, List.set_cons_succ]
              refine AnyK.takeB (i := 3) (v := ?_) rfl (by kernel_rfl) (by kernel_rfl) (by kernel_rfl) (by kernel_rfl) (fun _ _ _ h => h) (Or.inl ⟨by kernel_rfl, ?_⟩) (by exact q0) ?_
              rotate_left
              focus
                intro w9 hSw
                try dsimp only at hSw
                go_simp
                try with_reducible rfl
              try simp only [Act.put, List.setIfInBounds_toArray, List.set_cons_zero, List.set_cons_succ]
              refine AnyK.takeB (i := 5) (v := ?_) rfl (by kernel_rfl) (by kernel_rfl) (by kernel_rfl) (by kernel_rfl) (fun _ _ _ h => h) (Or.inl ⟨by kernel_rfl, ?_⟩) (by exact q0) ?_
              rotate_left
              focus
                intro w9 hSw
                try dsimp only at hSw
                go_simp
                try with_reducible rfl
              try simp only [Act.put, List.setIfInBounds_toArray, List.set_cons_zero, List.set_cons_succ]
              refine AnyK.takeB (i := 6) (v := ?_) rfl (by kernel_rfl) (by kernel_rfl) (by kernel_rfl) (by kernel_rfl) (fun _ _ _ h => h) (Or.inl ⟨by kernel_rfl, ?_⟩) (by exact q0) ?_
              rotate_left
              focus
                intro w9 hSw
                try dsimp only at hSw
                go_simp
                try with_reducible rfl
              try simp only [Act.put, List.setIfInBounds_toArray, List.set_cons_zero, List.set_cons_succ]
              refine AnyK.takeB (i := 7) (v := ?_) rfl (by kernel_rfl) (by kernel_rfl) (by kernel_rfl) (by kernel_rfl) (fun _ _ _ h => h) (Or.inl ⟨by kernel_rfl, ?_⟩) (by exact q0) ?_
              rotate_left
              focus
                intro w9 hSw
                try dsimp only at hSw
                go_simp
                try with_reducible rfl
              try simp only [Act.put, List.setIfInBounds_toArray, List.set_cons_zero, List.set_cons_succ]
              refine AnyK.takeB (i := 8) (v := ?_) rfl (by kernel_rfl) (by kernel_rfl) (by kernel_rfl) (by kernel_rfl) (fun _ _ _ h => h) (Or.inl ⟨by kernel_rfl, ?_⟩) (by exact q0) ?_
              rotate_left
              focus
                intro w9 hSw
                try dsimp only at hSw
                go_simp
                try with_reducible rfl
              try simp only [Act.put, List.setIfInBounds_toArray, List.set_cons_zero, List.set_cons_succ]
              refine AnyK.takeB (i := 9) (v := ?_) rfl (by kernel_rfl) (by kernel_rfl) (by kernel_rfl) (by kernel_rfl) (fun _ _ _ h => h) (Or.inl ⟨by kernel_rfl, ?_⟩) (by exact q0) ?_
              rotate_left
              focus
                intro w9 hSw
                try dsimp only at hSw
                go_simp
                try with_reducible rfl
              try simp only [Act.put, List.setIfInBounds_toArray, List.set_cons_zero, List.set_cons_succ]
              refine AnyK.one (i := 4) (by kernel_rfl) rfl (fun K9 hK9 => ?_)
              go_simp
              refine CCS.out.mono ?_
              rintro e z1 ⟨T', Z', rfl, H1, OK', hTd⟩
              have q1 := KK.out _ _ _ _ H1
              refine hK9.out _ _ (fun _ => q1) ?_
              clear hK9 K9
              try simp only [Act.put, List.setIfInBounds_toArray, List.set_cons_zero, List.set_cons_succ]
              refine AnyK.one (i := 10) (by kernel_rfl) rfl (fun K9 hK9 => ?_)
              go_simp
              refine (CCN.out _ T' Z' H1).mono ?_
              rintro e z2 ⟨rfl, H2⟩
              refine hK9.out _ _ (fun hx => absurd (by decide) hx) ?_
              clear hK9 K9
              try simp only [Act.put, List.setIfInBounds_toArray, List.set_cons_zero, List.set_cons_succ]
              obtain ⟨l1, l2⟩ := KK.out _ _ _ _ H2
              obtain ⟨xa, xc, _, c1, RA⟩ := cell_op H2 0 rfl
              obtain ⟨ya, yc, _, d1, RB⟩ := cell_op H2 1 rfl
              obtain ⟨ra, rc, r1, RT⟩ := told_op H2
              have QS : Hid (∀ z, Fr nob z2 z → z.cell? (la.add i) = some (.pointer (some ⟨o.tb, 0, none⟩)) ∧ z.cell? (wa.add i) = some (.pointer (some ⟨o.rb, 0, none⟩)) ∧ z.cell? ⟨ca, 1, none⟩ = some (.slice xa s'.log.length xc) ∧ z.cell? ⟨cb, 1, none⟩ = some (.slice ya s'.log.length yc) ∧ z.cell? ⟨o.rb, 2, none⟩ = some (.slice ra R'.told.length rc)) := Lib.hid (fun z hz => ⟨hz.cell' l1 (fun x => x), hz.cell' l2 (fun x => x), hz.cell' c1 (fun x => x), hz.cell' d1 (fun x => x), hz.cell' r1 (fun x => x)⟩)
              have qs := QS.out z2 (Fr.refl _ _)
              have ST := Lib.hid (fun z (hz : Fr nob z2 z) => Steps_op (H2.go hz))
              have hlg : T'.log.length = R'.told.length := by rw [OK'.log]
              have HLG := Lib.hid hlg
              have DN := Lib.hid (fun z (hz : Fr nob z2 z) => Done_op (H2.go hz) OK'.work)
              have RAB := Lib.hid (And.intro RA (And.intro RB RT))
              have H2H := Lib.hid H2
              have OKK := Lib.hid OK'
              have HTD := Lib.hid hTd
              clear H1 H2 RA RB RT OK' hTd l1 l2 c1 d1 r1 hlg CCS CCN q0 q1
              refine AnyK.phase (S' := fun w' => w'.cell? (la.add i) = some (.pointer (some ⟨o.tb, 0, none⟩)) ∧ w'.cell? (wa.add i) = some (.pointer (some ⟨o.rb, 0, none⟩)) ∧ w'.cell? ⟨ca, 1, none⟩ = some (.slice xa s'.log.length xc) ∧ w'.cell? ⟨cb, 1, none⟩ = some (.slice ya s'.log.length yc) ∧ w'.cell? ⟨o.rb, 2, none⟩ = some (.slice ra R'.told.length rc)) (ks' := []) (by kernel_rfl) ?_
              refine AnyK.take (i := 11) (v := ?_) rfl (by kernel_rfl) (by kernel_rfl) (by kernel_rfl) (by kernel_rfl) (fun _ _ _ h => h) (Or.inl ⟨by kernel_rfl, ?_⟩) (by exact qs) ?_
              rotate_left
              focus
                intro w9 hSw
                try dsimp only at hSw
                go_simp
                try with_reducible rfl
              try simp only [Act.put, List.setIfInBounds_toArray, List.set_cons_zero, List.set_cons_succ]
              refine AnyK.take (i := 12) (v := ?_) rfl (by kernel_rfl) (by kernel_rfl) (by kernel_rfl) (by kernel_rfl) (fun _ _ _ h => h) (Or.inl ⟨by kernel_rfl, ?_⟩) (by exact qs) ?_
              rotate_left
              focus
                intro w9 hSw
                try dsimp only at hSw
                go_simp
                try with_reducible rfl
              try simp only [Act.put, List.setIfInBounds_toArray, List.set_cons_zero, List.set_cons_succ]
              refine AnyK.take (i := 13) (v := ?_) rfl (by kernel_rfl) (by kernel_rfl) (by kernel_rfl) (by kernel_rfl) (fun _ _ _ h => h) (Or.inl ⟨by kernel_rfl, ?_⟩) (by exact qs) ?_
              rotate_left
              focus
                intro w9 hSw
                try dsimp only at hSw
                go_simp
                try with_reducible rfl
              try simp only [Act.put, List.setIfInBounds_toArray, List.set_cons_zero, List.set_cons_succ]
              refine AnyK.take (i := 14) (v := ?_) rfl (by kernel_rfl) (by kernel_rfl) (by kernel_rfl) (by kernel_rfl) (fun _ _ _ h => h) (Or.inl ⟨by kernel_rfl, ?_⟩) (by exact qs) ?_
              rotate_left
              focus
                intro w9 hSw
                try dsimp only at hSw
                go_simp
                try with_reducible rfl
              try simp only [Act.put, List.setIfInBounds_toArray, List.set_cons_zero, List.set_cons_succ]
              refine AnyK.take (i := 15) (v := ?_) rfl (by kernel_rfl) (by kernel_rfl) (by kernel_rfl) (by kernel_rfl) (fun _ _ _ h => h) (Or.inl ⟨by kernel_rfl, ?_⟩) (by exact qs) ?_
              rotate_left
              focus
                intro w9 hSw
                try dsimp only at hSw
                go_simp
                try with_reducible rfl
              try simp only [Act.put, List.setIfInBounds_toArray, List.set_cons_zero, List.set_cons_succ]
              refine AnyK.take (i := 16) (v := ?_) rfl (by kernel_rfl) (by kernel_rfl) (by kernel_rfl) (by kernel_rfl) (fun _ _ _ h => h) (Or.inl ⟨by kernel_rfl, ?_⟩) (by exact qs) ?_
              rotate_left
              focus
                intro w9 hSw
                try dsimp only at hSw
                go_simp
                try with_reducible rfl
              try simp only [Act.put, List.setIfInBounds_toArray, List.set_cons_zero, List.set_cons_succ]
              refine AnyK.take (i := 17) (v := ?_) rfl (by kernel_rfl) (by kernel_rfl) (by kernel_rfl) (by kernel_rfl) (fun _ _ _ h => h) (Or.inl ⟨by kernel_rfl, ?_⟩) (by exact qs) ?_
              rotate_left
              focus
                intro w9 hSw
                try dsimp only at hSw
                go_simp
                try with_reducible rfl
              try simp only [Act.put, List.setIfInBounds_toArray, List.set_cons_zero, List.set_cons_succ]
              refine AnyK.take (i := 18) (v := ?_) rfl (by kernel_rfl) (by kernel_rfl) (by kernel_rfl) (by kernel_rfl) (fun _ _ _ h => h) (Or.inl ⟨by kernel_rfl, ?_⟩) (by exact qs) ?_
              rotate_left
              focus
                intro w9 hSw
                try dsimp only at hSw
                go_simp
                try with_reducible rfl
              try simp only [Act.put, List.setIfInBounds_toArray, List.set_cons_zero, List.set_cons_succ]
              refine AnyK.take (i := 19) (v := ?_) rfl (by kernel_rfl) (by kernel_rfl) (by kernel_rfl) (by kernel_rfl) (fun _ _ _ h => h) (Or.inl ⟨by kernel_rfl, ?_⟩) (by exact qs) ?_
              rotate_left
              focus
                intro w9 hSw
                try dsimp only at hSw
                go_simp
                try with_reducible rfl
              try simp only [Act.put, List.setIfInBounds_toArray, List.set_cons_zero, List.set_cons_succ]
              refine AnyK.take (i := 20) (v := ?_) rfl (by kernel_rfl) (by kernel_rfl) (by kernel_rfl) (by kernel_rfl) (fun _ _ _ h => h) (Or.inl ⟨by kernel_rfl, ?_⟩) (by exact qs) ?_
              rotate_left
              focus
                intro w9 hSw
                try dsimp only at hSw
                go_simp
                try with_reducible rfl
              try simp only [Act.put, List.setIfInBounds_toArray, List.set_cons_zero, List.set_cons_succ]
              refine AnyK.one (i := 21) (by kernel_rfl) rfl (fun K9 hK9 => ?_)
              go_simp
              refine (same_yes _ _ s'.log _ RAB.out.1 RAB.out.2.1).mono ?_
              rintro e z3 ⟨rfl, F3⟩
              have q3 := QS.out z3 F3
              refine hK9.out _ _ (fun _ => q3) ?_
              clear hK9 K9
              try simp only [Act.put, List.setIfInBounds_toArray, List.set_cons_zero, List.set_cons_succ]
              refine AnyK.take (i := 22) (v := ?_) rfl (by kernel_rfl) (by kernel_rfl) (by kernel_rfl) (by kernel_rfl) (fun _ _ _ h => h) (Or.inl ⟨by kernel_rfl, ?_⟩) (by exact q3) ?_
              rotate_left
              focus
                intro w9 hSw
                try dsimp only at hSw
                go_simp
                try with_reducible rfl
              try simp only [Act.put, List.setIfInBounds_toArray, List.set_cons_zero, List.set_cons_succ]
              refine AnyK.take (i := 23) (v := ?_) rfl (by kernel_rfl) (by kernel_rfl) (by kernel_rfl) (by kernel_rfl) (fun _ _ _ h => h) (Or.inl ⟨by kernel_rfl, ?_⟩) (by exact q3) ?_
              rotate_left
              focus
                intro w9 hSw
                try dsimp only at hSw
                go_simp
                try with_reducible rfl
              try simp only [Act.put, List.setIfInBounds_toArray, List.set_cons_zero, List.set_cons_succ]
              refine AnyK.take (i := 24) (v := ?_) rfl (by kernel_rfl) (by kernel_rfl) (by kernel_rfl) (by kernel_rfl) (fun _ _ _ h => h) (Or.inl ⟨by kernel_rfl, ?_⟩) (by exact q3) ?_
              rotate_left
              focus
                intro w9 hSw
                try dsimp only at hSw
                go_simp
                try with_reducible rfl
              try simp only [Act.put, List.setIfInBounds_toArray, List.set_cons_zero, List.set_cons_succ]
              refine AnyK.take (i := 25) (v := ?_) rfl (by kernel_rfl) (by kernel_rfl) (by kernel_rfl) (by kernel_rfl) (fun _ _ _ h => h) (Or.inl ⟨by kernel_rfl, ?_⟩) (by exact q3) ?_
              rotate_left
              focus
                intro w9 hSw
                try dsimp only at hSw
                go_simp
                try with_reducible rfl
              try simp only [Act.put, List.setIfInBounds_toArray, List.set_cons_zero, List.set_cons_succ]
              refine AnyK.take (i := 26) (v := ?_) rfl (by kernel_rfl) (by kernel_rfl) (by kernel_rfl) (by kernel_rfl) (fun _ _ _ h => h) (Or.inl ⟨by kernel_rfl, ?_⟩) (by exact q3) ?_
              rotate_left
              focus
                intro w9 hSw
                try dsimp only at hSw
                go_simp
                try with_reducible rfl
              try simp only [Act.put, List.setIfInBounds_toArray, List.set_cons_zero, List.set_cons_succ]
              refine AnyK.take (i := 27) (v := ?_) rfl (by kernel_rfl) (by kernel_rfl) (by kernel_rfl) (by kernel_rfl) (fun _ _ _ h => h) (Or.inl ⟨by kernel_rfl, ?_⟩) (by exact q3) ?_
              rotate_left
              focus
                intro w9 hSw
                try dsimp only at hSw
                go_simp
                try with_reducible rfl
              try simp only [Act.put, List.setIfInBounds_toArray, List.set_cons_zero, List.set_cons_succ]
              refine AnyK.take (i := 28) (v := ?_) rfl (by kernel_rfl) (by kernel_rfl) (by kernel_rfl) (by kernel_rfl) (fun _ _ _ h => h) (Or.inl ⟨by kernel_rfl, ?_⟩) (by exact q3) ?_
              rotate_left
              focus
                intro w9 hSw
                try dsimp only at hSw
                go_simp
                try with_reducible rfl
              try simp only [Act.put, List.setIfInBounds_toArray, List.set_cons_zero, List.set_cons_succ]
              refine AnyK.take (i := 30) (v := ?_) rfl (by kernel_rfl) (by kernel_rfl) (by kernel_rfl) (by kernel_rfl) (fun _ _ _ h => h) (Or.inl ⟨by kernel_rfl, ?_⟩) (by exact q3) ?_
              rotate_left
              focus
                intro w9 hSw
                try dsimp only at hSw
                go_simp
                try with_reducible rfl
              try simp only [Act.put, List.setIfInBounds_toArray, List.set_cons_zero, List.set_cons_succ]
              refine AnyK.take (i := 31) (v := ?_) rfl (by kernel_rfl) (by kernel_rfl) (by kernel_rfl) (by kernel_rfl) (fun _ _ _ h => h) (Or.inl ⟨by kernel_rfl, ?_⟩) (by exact q3) ?_
              rotate_left
              focus
                intro w9 hSw
                try dsimp only at hSw
                go_simp
                try with_reducible rfl
              try simp only [Act.put, List.setIfInBounds_toArray, List.set_cons_zero, List.set_cons_succ]
              refine AnyK.take (i := 32) (v := ?_) rfl (by kernel_rfl) (by kernel_rfl) (by kernel_rfl) (by kernel_rfl) (fun _ _ _ h => h) (Or.inl ⟨by kernel_rfl, ?_⟩) (by exact q3) ?_
              rotate_left
              focus
                intro w9 hSw
                try dsimp only at hSw
                go_simp
                try with_reducible rfl
              try simp only [Act.put, List.setIfInBounds_toArray, List.set_cons_zero, List.set_cons_succ]
              refine AnyK.take (i := 33) (v := ?_) rfl (by kernel_rfl) (by kernel_rfl) (by kernel_rfl) (by kernel_rfl) (fun _ _ _ h => h) (Or.inl ⟨by kernel_rfl, ?_⟩) (by exact q3) ?_
              rotate_left
              focus
                intro w9 hSw
                try dsimp only at hSw
                go_simp
                try with_reducible rfl
              try simp only [Act.put, List.setIfInBounds_toArray, List.set_cons_zero, List.set_cons_succ]
              refine AnyK.take (i := 34) (v := ?_) rfl (by kernel_rfl) (by kernel_rfl) (by kernel_rfl) (by kernel_rfl) (fun _ _ _ h => h) (Or.inl ⟨by kernel_rfl, ?_⟩) (by exact q3) ?_
              rotate_left
              focus
                intro w9 hSw
                try dsimp only at hSw
                go_simp
                try with_reducible rfl
              try simp only [Act.put, List.setIfInBounds_toArray, List.set_cons_zero, List.set_cons_succ]
              refine AnyK.take (i := 35) (v := ?_) rfl (by kernel_rfl) (by kernel_rfl) (by kernel_rfl) (by kernel_rfl) (fun _ _ _ h => h) (Or.inl ⟨by kernel_rfl, ?_⟩) (by exact q3) ?_
              rotate_left
              focus
                intro w9 hSw
                try dsimp only at hSw
                go_simp
                try with_reducible rfl
              try simp only [Act.put, List.setIfInBounds_toArray, List.set_cons_zero, List.set_cons_succ]
              refine AnyK.take (i := 36) (v := ?_) rfl (by kernel_rfl) (by kernel_rfl) (by kernel_rfl) (by kernel_rfl) (fun _ _ _ h => h) (Or.inl ⟨by kernel_rfl, ?_⟩) (by exact q3) ?_
              rotate_left
              focus
                intro w9 hSw
                try dsimp only at hSw
                go_simp
                try with_reducible rfl
              try simp only [Act.put, List.setIfInBounds_toArray, List.set_cons_zero, List.set_cons_succ]
              refine AnyK.take (i := 37) (v := ?_) rfl (by kernel_rfl) (by kernel_rfl) (by kernel_rfl) (by kernel_rfl) (fun _ _ _ h => h) (Or.inl ⟨by kernel_rfl, ?_⟩) (by exact q3) ?_
              rotate_left
              focus
                intro w9 hSw
                try dsimp only at hSw
                go_simp
                try with_reducible rfl
              try simp only [Act.put, List.setIfInBounds_toArray, List.set_cons_zero, List.set_cons_succ]
              refine AnyK.one (i := 29) (by kernel_rfl) rfl (fun K9 hK9 => ?_)
              go_simp
              refine (ST.out z3 F3).mono ?_
              rintro e w' ⟨rfl, hw⟩
              have hw := hw.symm
              subst hw
              refine hK9.out _ _ (fun _ => q3) ?_
              clear hK9 K9
              try simp only [Act.put, List.setIfInBounds_toArray, List.set_cons_zero, List.set_cons_succ]
              try dsimp only
              rw [HLG.out]
              refine AnyK.one (i := 38) (by kernel_rfl) rfl (fun K9 hK9 => ?_)
              go_simp
              refine hK9.out _ _ (fun _ => q3) ?_
              clear hK9 K9
              try simp only [Act.put, List.setIfInBounds_toArray, List.set_cons_zero, List.set_cons_succ]
              refine AnyK.one (i := 39) (by kernel_rfl) rfl (fun K9 hK9 => ?_)
              go_simp
              refine hK9.out _ _ (fun _ => q3) ?_
              clear hK9 K9
              try simp only [Act.put, List.setIfInBounds_toArray, List.set_cons_zero, List.set_cons_succ]
              refine AnyK.done (by kernel_rfl) ?_ _
              refine NoPanic.normal ?_
              have HXX : Hid (∃ T' Z', Heap w z3 ((cellP ca s' :: cellP cb s' :: ([rowP 29 1 (.slice (some la) N lc) N (os.map tbV), rowP 31 1 (.slice (some wa) N wc) N (os.map rbV)] ++ M)) ++ ({ o with T := T', Z := Z', R := R' } : O1).L ca) ∧ ({ o with T := T', Z := Z', R := R' } : O1).ok w (k + 1) ∧ T'.done = true) := Lib.hid ⟨T', Z', H2H.out.go F3, OKK.out, HTD.out⟩
              clear H2H OKK HTD DN ST RAB QS HLG qs q3
              go_wp2_with fail
              go_meet
              exact ⟨rfl, HXX⟩
          case rest =>
          obtain ⟨rfl, HCC⟩ := hcut
          clear CCS CCN q0
          obtain ⟨T', Z', H2, OK', hTd⟩ := HCC.out
          rename World => z2
          have HCC9 := HCC
          clear HCC
          obtain ⟨ra, rc, r1, RT⟩ := told_op H2
          obtain ⟨l1, l2⟩ := KK.out _ _ _ _ H2
          have QS : Hid (∀ z, Fr nob z2 z → z.cell? (la.add i) = some (.pointer (some ⟨o.tb, 0, none⟩)) ∧ z.cell? (wa.add i) = some (.pointer (some ⟨o.rb, 0, none⟩)) ∧ z.cell? ⟨o.rb, 2, none⟩ = some (.slice ra R'.told.length rc)) := Lib.hid (fun z hz => ⟨hz.cell' l1 (fun x => x), hz.cell' l2 (fun x => x), hz.cell' r1 (fun x => x)⟩)
          have DN := Lib.hid (fun z (hz : Fr nob z2 z) => Done_op (H2.go hz) OK'.work)
          have RAB := Lib.hid RT
          have H2H := Lib.hid H2
          have OKK := Lib.hid OK'
          have HTD := Lib.hid hTd
          clear H2 RT OK' hTd l1 l2 r1 HCC9
          go_upto_region 21 with fail
          go_cut [137] from 117 to 137 (fun s137 wx => s137 = .bool false ∧ Hid (Heap w wx ((cellP ca s' :: cellP cb s' :: ([rowP 29 1 (.slice (some la) N lc) N (os.map tbV), rowP 31 1 (.slice (some wa) N wc) N (os.map rbV)] ++ M)) ++ ({ o with T := T', Z := Z', R := R' } : O1).L ca)))
          case first =>
            cases d
            · have F4 : Fr nob z2 z2.drew := Fr.drew (Fr.refl _ _)
              have q4 := QS.out z2.drew F4
              have q5 : z2.drew.cell? (la.add i) = some (.pointer (some ⟨o.tb, 0, none⟩)) ∧ z2.drew.cell? (wa.add i) = some (.pointer (some ⟨o.rb, 0, none⟩)) ∧ z2.drew.cell? ⟨o.rb, 2, none⟩ = some (.slice ra R'.told.length rc) := q4
              clear q4
              refine wp_region_noPanic ?_
              refine AnyK.start (ks := []) (S := fun w' => w'.cell? (la.add i) = some (.pointer (some ⟨o.tb, 0, none⟩)) ∧ w'.cell? (wa.add i) = some (.pointer (some ⟨o.rb, 0, none⟩)) ∧ w'.cell? ⟨o.rb, 2, none⟩ = some (.slice ra R'.told.length rc)) (by kernel_rfl) (by exact q5) (fun _ => ?_)
              refine AnyK.take (i := 0) (v := ?_) rfl (by kernel_rfl) (by kernel_rfl) (by kernel_rfl) (by kernel_rfl) (fun _ _ _ h => h) (Or.inl ⟨by kernel_rfl, ?_⟩) (by exact q5) ?_
              rotate_left
              focus
                intro w9 hSw
                try dsimp only at hSw
                go_simp
                try with_reducible rfl
              try simp only [Act.put, List.setIfInBounds_toArray, List.set_cons_zero, List.set_cons_succ]
              refine AnyK.take (i := 1) (v := ?_) rfl (by kernel_rfl) (by kernel_rfl) (by kernel_rfl) (by kernel_rfl) (fun _ _ _ h => h) (Or.inl ⟨by kernel_rfl, ?_⟩) (by exact q5) ?_
              rotate_left
              focus
                intro w9 hSw
                try dsimp only at hSw
                go_simp
                try with_reducible rfl
              try simp only [Act.put, List.setIfInBounds_toArray, List.set_cons_zero, List.set_cons_succ]
              refine AnyK.take (i := 2) (v := ?_) rfl (by kernel_rfl) (by kernel_rfl) (by kernel_rfl) (by kernel_rfl) (fun _ _ _ h => h) (Or.inl ⟨by kernel_rfl, ?_⟩) (by exact q5) ?_
              rotate_left
              focus
                intro w9 hSw
                try dsimp only at hSw
                go_simp
                try with_reducible rfl
              try simp only [Act.put, List.setIfInBounds_toArray, List.set_cons_zero, List.set_cons_succ]
              refine AnyK.take (i := 3) (v := ?_) rfl (by kernel_rfl) (by kernel_rfl) (by kernel_rfl) (by kernel_rfl) (fun _ _ _ h => h) (Or.inl ⟨by kernel_rfl, ?_⟩) (by exact q5) ?_
              rotate_left
              focus
                intro w9 hSw
                try dsimp only at hSw
                go_simp
                try with_reducible rfl
              try simp only [Act.put, List.setIfInBounds_toArray, List.set_cons_zero, List.set_cons_succ]
              refine AnyK.one (i := 4) (by kernel_rfl) rfl (fun K9 hK9 => ?_)
              go_simp
              refine (DN.out _ F4).mono ?_
              rintro e w' ⟨rfl, hw⟩
              have hw := hw.symm
              subst hw
              refine hK9.out _ _ (fun _ => q5) ?_
              clear hK9 K9
              try simp only [Act.put, List.setIfInBounds_toArray, List.set_cons_zero, List.set_cons_succ]
              try dsimp only
              rw [HTD.out]
              refine AnyK.take (i := 5) (v := ?_) rfl (by kernel_rfl) (by kernel_rfl) (by kernel_rfl) (by kernel_rfl) (fun _ _ _ h => h) (Or.inl ⟨by kernel_rfl, ?_⟩) (by exact q5) ?_
              rotate_left
              focus
                intro w9 hSw
                try dsimp only at hSw
                go_simp
                try with_reducible rfl
              try simp only [Act.put, List.setIfInBounds_toArray, List.set_cons_zero, List.set_cons_succ]
              refine AnyK.take (i := 6) (v := undef) rfl (by kernel_rfl) (by kernel_rfl) (by kernel_rfl) (by kernel_rfl) (fun _ _ _ h => h) (Or.inr ⟨by kernel_rfl, rfl⟩) (by exact q5) ?_
              try simp only [Act.put, List.setIfInBounds_toArray, List.set_cons_zero, List.set_cons_succ]
              refine AnyK.take (i := 7) (v := undef) rfl (by kernel_rfl) (by kernel_rfl) (by kernel_rfl) (by kernel_rfl) (fun _ _ _ h => h) (Or.inr ⟨by kernel_rfl, rfl⟩) (by exact q5) ?_
              try simp only [Act.put, List.setIfInBounds_toArray, List.set_cons_zero, List.set_cons_succ]
              refine AnyK.take (i := 8) (v := undef) rfl (by kernel_rfl) (by kernel_rfl) (by kernel_rfl) (by kernel_rfl) (fun _ _ _ h => h) (Or.inr ⟨by kernel_rfl, rfl⟩) (by exact q5) ?_
              try simp only [Act.put, List.setIfInBounds_toArray, List.set_cons_zero, List.set_cons_succ]
              refine AnyK.take (i := 9) (v := undef) rfl (by kernel_rfl) (by kernel_rfl) (by kernel_rfl) (by kernel_rfl) (fun _ _ _ h => h) (Or.inr ⟨by kernel_rfl, rfl⟩) (by exact q5) ?_
              try simp only [Act.put, List.setIfInBounds_toArray, List.set_cons_zero, List.set_cons_succ]
              refine AnyK.take (i := 10) (v := undef) rfl (by kernel_rfl) (by kernel_rfl) (by kernel_rfl) (by kernel_rfl) (fun _ _ _ h => h) (Or.inr ⟨by kernel_rfl, rfl⟩) (by exact q5) ?_
              try simp only [Act.put, List.setIfInBounds_toArray, List.set_cons_zero, List.set_cons_succ]
              refine AnyK.take (i := 11) (v := undef) rfl (by kernel_rfl) (by kernel_rfl) (by kernel_rfl) (by kernel_rfl) (fun _ _ _ h => h) (Or.inr ⟨by kernel_rfl, rfl⟩) (by exact q5) ?_
              try simp only [Act.put, List.setIfInBounds_toArray, List.set_cons_zero, List.set_cons_succ]
              refine AnyK.take (i := 12) (v := undef) rfl (by kernel_rfl) (by kernel_rfl) (by kernel_rfl) (by kernel_rfl) (fun _ _ _ h => h) (Or.inr ⟨by kernel_rfl, rfl⟩) (by exact q5) ?_
              try simp only [Act.put, List.setIfInBounds_toArray, List.set_cons_zero, List.set_cons_succ]
              refine AnyK.take (i := 13) (v := undef) rfl (by kernel_rfl) (by kernel_rfl) (by kernel_rfl) (by kernel_rfl) (fun _ _ _ h => h) (Or.inr ⟨by kernel_rfl, rfl⟩) (by exact q5) ?_
              try simp only [Act.put, List.setIfInBounds_toArray, List.set_cons_zero, List.set_cons_succ]
              refine AnyK.take (i := 14) (v := undef) rfl (by kernel_rfl) (by kernel_rfl) (by kernel_rfl) (by kernel_rfl) (fun _ _ _ h => h) (Or.inr ⟨by kernel_rfl, rfl⟩) (by exact q5) ?_
              try simp only [Act.put, List.setIfInBounds_toArray, List.set_cons_zero, List.set_cons_succ]
              refine AnyK.take (i := 15) (v := undef) rfl (by kernel_rfl) (by kernel_rfl) (by kernel_rfl) (by kernel_rfl) (fun _ _ _ h => h) (Or.inr ⟨by kernel_rfl, rfl⟩) (by exact q5) ?_
              try simp only [Act.put, List.setIfInBounds_toArray, List.set_cons_zero, List.set_cons_succ]
              refine AnyK.take (i := 16) (v := undef) rfl (by kernel_rfl) (by kernel_rfl) (by kernel_rfl) (by kernel_rfl) (fun _ _ _ h => h) (Or.inr ⟨by kernel_rfl, rfl⟩) (by exact q5) ?_
              try simp only [Act.put, List.setIfInBounds_toArray, List.set_cons_zero, List.set_cons_succ]
              refine AnyK.take (i := 17) (v := undef) rfl (by kernel_rfl) (by kernel_rfl) (by kernel_rfl) (by kernel_rfl) (fun _ _ _ h => h) (Or.inr ⟨by kernel_rfl, rfl⟩) (by exact q5) ?_
              try simp only [Act.put, List.setIfInBounds_toArray, List.set_cons_zero, List.set_cons_succ]
              refine AnyK.take (i := 18) (v := undef) rfl (by kernel_rfl) (by kernel_rfl) (by kernel_rfl) (by kernel_rfl) (fun _ _ _ h => h) (Or.inr ⟨by kernel_rfl, rfl⟩) (by exact q5) ?_
              try simp only [Act.put, List.setIfInBounds_toArray, List.set_cons_zero, List.set_cons_succ]
              refine AnyK.take (i := 19) (v := undef) rfl (by kernel_rfl) (by kernel_rfl) (by kernel_rfl) (by kernel_rfl) (fun _ _ _ h => h) (Or.inr ⟨by kernel_rfl, rfl⟩) (by exact q5) ?_
              try simp only [Act.put, List.setIfInBounds_toArray, List.set_cons_zero, List.set_cons_succ]
              refine AnyK.one (i := 20) (by kernel_rfl) rfl (fun K9 hK9 => ?_)
              go_simp
              refine hK9.out _ _ (fun _ => q5) ?_
              clear hK9 K9
              try simp only [Act.put, List.setIfInBounds_toArray, List.set_cons_zero, List.set_cons_succ]
              refine AnyK.done (by kernel_rfl) ?_ _
              refine NoPanic.normal ?_
              have HXX : Hid (Heap w z2.drew ((cellP ca s' :: cellP cb s' :: ([rowP 29 1 (.slice (some la) N lc) N (os.map tbV), rowP 31 1 (.slice (some wa) N wc) N (os.map rbV)] ++ M)) ++ ({ o with T := T', Z := Z', R := R' } : O1).L ca)) := Lib.hid (H2H.out.go F4)
              clear H2H OKK HTD DN RAB QS q5
              go_wp2_with fail
              go_meet
              exact ⟨rfl, HXX⟩
            · have F4 : Fr nob z2 z2.drew := Fr.drew (Fr.refl _ _)
              have q4 := QS.out z2.drew F4
              have q5 : z2.drew.cell? (la.add i) = some (.pointer (some ⟨o.tb, 0, none⟩)) ∧ z2.drew.cell? (wa.add i) = some (.pointer (some ⟨o.rb, 0, none⟩)) ∧ z2.drew.cell? ⟨o.rb, 2, none⟩ = some (.slice ra R'.told.length rc) := q4
              clear q4
              refine wp_region_noPanic ?_
              refine AnyK.start (ks := []) (S := fun w' => w'.cell? (la.add i) = some (.pointer (some ⟨o.tb, 0, none⟩)) ∧ w'.cell? (wa.add i) = some (.pointer (some ⟨o.rb, 0, none⟩)) ∧ w'.cell? ⟨o.rb, 2, none⟩ = some (.slice ra R'.told.length rc)) (by kernel_rfl) (by exact q5) (fun _ => ?_)
              refine AnyK.take (i := 0) (v := ?_) rfl (by kernel_rfl) (by kernel_rfl) (by kernel_rfl) (by kernel_rfl) (fun _ _ _ h => h) (Or.inl ⟨by kernel_rfl, ?_⟩) (by exact q5) ?_
              rotate_left
              focus
                intro w9 hSw
                try dsimp only at hSw
                go_simp
                try with_reducible rfl
              try simp only [Act.put, List.setIfInBounds_toArray, List.set_cons_zero, List.set_cons_succ]
              refine AnyK.take (i := 1) (v := ?_) rfl (by kernel_rfl) (by kernel_rfl) (by kernel_rfl) (by kernel_rfl) (fun _ _ _ h => h) (Or.inl ⟨by kernel_rfl, ?_⟩) (by exact q5) ?_
              rotate_left
              focus
                intro w9 hSw
                try dsimp only at hSw
                go_simp
                try with_reducible rfl
              try simp only [Act.put, List.setIfInBounds_toArray, List.set_cons_zero, List.set_cons_succ]
              refine AnyK.take (i := 2) (v := ?_) rfl (by kernel_rfl) (by kernel_rfl) (by kernel_rfl) (by kernel_rfl) (fun _ _ _ h => h) (Or.inl ⟨by kernel_rfl, ?_⟩) (by exact q5) ?_
              rotate_left
              focus
                intro w9 hSw
                try dsimp only at hSw
                go_simp
                try with_reducible rfl
              try simp only [Act.put, List.setIfInBounds_toArray, List.set_cons_zero, List.set_cons_succ]
              refine AnyK.take (i := 3) (v := ?_) rfl (by kernel_rfl) (by kernel_rfl) (by kernel_rfl) (by kernel_rfl) (fun _ _ _ h => h) (Or.inl ⟨by kernel_rfl, ?_⟩) (by exact q5) ?_
              rotate_left
              focus
                intro w9 hSw
                try dsimp only at hSw
                go_simp
                try with_reducible rfl
              try simp only [Act.put, List.setIfInBounds_toArray, List.set_cons_zero, List.set_cons_succ]
              refine AnyK.one (i := 4) (by kernel_rfl) rfl (fun K9 hK9 => ?_)
              go_simp
              refine (DN.out _ F4).mono ?_
              rintro e w' ⟨rfl, hw⟩
              have hw := hw.symm
              subst hw
              refine hK9.out _ _ (fun _ => q5) ?_
              clear hK9 K9
              try simp only [Act.put, List.setIfInBounds_toArray, List.set_cons_zero, List.set_cons_succ]
              try dsimp only
              rw [HTD.out]
              refine AnyK.take (i := 5) (v := ?_) rfl (by kernel_rfl) (by kernel_rfl) (by kernel_rfl) (by kernel_rfl) (fun _ _ _ h => h) (Or.inl ⟨by kernel_rfl, ?_⟩) (by exact q5) ?_
              rotate_left
              focus
                intro w9 hSw
                try dsimp only at hSw
                go_simp
                try with_reducible rfl
              try simp only [Act.put, List.setIfInBounds_toArray, List.set_cons_zero, List.set_cons_succ]
              refine AnyK.take (i := 6) (v := ?_) rfl (by kernel_rfl) (by kernel_rfl) (by kernel_rfl) (by kernel_rfl) (fun _ _ _ h => h) (Or.inl ⟨by kernel_rfl, ?_⟩) (by exact q5) ?_
              rotate_left
              focus
                intro w9 hSw
                try dsimp only at hSw
                go_simp
                try with_reducible rfl
              try simp only [Act.put, List.setIfInBounds_toArray, List.set_cons_zero, List.set_cons_succ]
              refine AnyK.take (i := 7) (v := ?_) rfl (by kernel_rfl) (by kernel_rfl) (by kernel_rfl) (by kernel_rfl) (fun _ _ _ h => h) (Or.inl ⟨by kernel_rfl, ?_⟩) (by exact q5) ?_
              rotate_left
              focus
                intro w9 hSw
                try dsimp only at hSw
                go_simp
                try with_reducible rfl
              try simp only [Act.put, List.setIfInBounds_toArray, List.set_cons_zero, List.set_cons_succ]
              refine AnyK.take (i := 8) (v := ?_) rfl (by kernel_rfl) (by kernel_rfl) (by kernel_rfl) (by kernel_rfl) (fun _ _ _ h => h) (Or.inl ⟨by kernel_rfl, ?_⟩) (by exact q5) ?_
              rotate_left
              focus
                intro w9 hSw
                try dsimp only at hSw
                go_simp
                try with_reducible rfl
              try simp only [Act.put, List.setIfInBounds_toArray, List.set_cons_zero, List.set_cons_succ]
              refine AnyK.take (i := 9) (v := ?_) rfl (by kernel_rfl) (by kernel_rfl) (by kernel_rfl) (by kernel_rfl) (fun _ _ _ h => h) (Or.inl ⟨by kernel_rfl, ?_⟩) (by exact q5) ?_
              rotate_left
              focus
                intro w9 hSw
                try dsimp only at hSw
                go_simp
                try with_reducible rfl
              try simp only [Act.put, List.setIfInBounds_toArray, List.set_cons_zero, List.set_cons_succ]
              refine AnyK.take (i := 11) (v := ?_) rfl (by kernel_rfl) (by kernel_rfl) (by kernel_rfl) (by kernel_rfl) (fun _ _ _ h => h) (Or.inl ⟨by kernel_rfl, ?_⟩) (by exact q5) ?_
              rotate_left
              focus
                intro w9 hSw
                try dsimp only at hSw
                go_simp
                try with_reducible rfl
              try simp only [Act.put, List.setIfInBounds_toArray, List.set_cons_zero, List.set_cons_succ]
              refine AnyK.take (i := 12) (v := ?_) rfl (by kernel_rfl) (by kernel_rfl) (by kernel_rfl) (by kernel_rfl) (fun _ _ _ h => h) (Or.inl ⟨by kernel_rfl, ?_⟩) (by exact q5) ?_
              rotate_left
              focus
                intro w9 hSw
                try dsimp only at hSw
                go_simp
                try with_reducible rfl
              try simp only [Act.put, List.setIfInBounds_toArray, List.set_cons_zero, List.set_cons_succ]
              refine AnyK.take (i := 13) (v := ?_) rfl (by kernel_rfl) (by kernel_rfl) (by kernel_rfl) (by kernel_rfl) (fun _ _ _ h => h) (Or.inl ⟨by kernel_rfl, ?_⟩) (by exact q5) ?_
              rotate_left
              focus
                intro w9 hSw
                try dsimp only at hSw
                go_simp
                try with_reducible rfl
              try simp only [Act.put, List.setIfInBounds_toArray, List.set_cons_zero, List.set_cons_succ]
              refine AnyK.take (i := 14) (v := ?_) rfl (by kernel_rfl) (by kernel_rfl) (by kernel_rfl) (by kernel_rfl) (fun _ _ _ h => h) (Or.inl ⟨by kernel_rfl, ?_⟩) (by exact q5) ?_
              rotate_left
              focus
                intro w9 hSw
                try dsimp only at hSw
                go_simp
                try with_reducible rfl
              try simp only [Act.put, List.setIfInBounds_toArray, List.set_cons_zero, List.set_cons_succ]
              refine AnyK.take (i := 15) (v := ?_) rfl (by kernel_rfl) (by kernel_rfl) (by kernel_rfl) (by kernel_rfl) (fun _ _ _ h => h) (Or.inl ⟨by kernel_rfl, ?_⟩) (by exact q5) ?_
              rotate_left
              focus
                intro w9 hSw
                try dsimp only at hSw
                go_simp
                try with_reducible rfl
              try simp only [Act.put, List.setIfInBounds_toArray, List.set_cons_zero, List.set_cons_succ]
              refine AnyK.take (i := 16) (v := ?_) rfl (by kernel_rfl) (by kernel_rfl) (by kernel_rfl) (by kernel_rfl) (fun _ _ _ h => h) (Or.inl ⟨by kernel_rfl, ?_⟩) (by exact q5) ?_
              rotate_left
              focus
                intro w9 hSw
                try dsimp only at hSw
                go_simp
                try with_reducible rfl
              try simp only [Act.put, List.setIfInBounds_toArray, List.set_cons_zero, List.set_cons_succ]
              refine AnyK.take (i := 17) (v := ?_) rfl (by kernel_rfl) (by kernel_rfl) (by kernel_rfl) (by kernel_rfl) (fun _ _ _ h => h) (Or.inl ⟨by kernel_rfl, ?_⟩) (by exact q5) ?_
              rotate_left
              focus
                intro w9 hSw
                try dsimp only at hSw
                go_simp
                try with_reducible rfl
              try simp only [Act.put, List.setIfInBounds_toArray, List.set_cons_zero, List.set_cons_succ]
              refine AnyK.one (i := 10) (by kernel_rfl) rfl (fun K9 hK9 => ?_)
              go_simp
              refine (Out_op (H2H.out.go F4) OKK.out HTD.out (by omega)).mono ?_
              rintro e z5 ⟨a5, c5, rfl, R5, F45⟩
              have F5 : Fr nob z2 z5 := F4.trans F45 (fun _ _ x => x)
              have q6 := QS.out z5 F5
              have q7 : z5.cell? (la.add i) = some (.pointer (some ⟨o.tb, 0, none⟩)) ∧ z5.cell? (wa.add i) = some (.pointer (some ⟨o.rb, 0, none⟩)) ∧ z5.cell? ⟨o.rb, 2, none⟩ = some (.slice ra R'.told.length rc) := q6
              refine hK9.out _ _ (fun _ => q7) ?_
              clear hK9 K9 q6
              try simp only [Act.put, List.setIfInBounds_toArray, List.set_cons_zero, List.set_cons_succ]
              refine AnyK.one (i := 18) (by kernel_rfl) rfl (fun K9 hK9 => ?_)
              go_simp
              refine (same_yes _ _ R'.told _ R5 (RAB.out.fr F5 (fun _ _ _ x => x))).mono ?_
              rintro e z6 ⟨rfl, F56⟩
              have F6 : Fr nob z2 z6 := F5.trans F56 (fun _ _ x => x)
              have q8 := QS.out z6 F6
              have q9 : z6.cell? (la.add i) = some (.pointer (some ⟨o.tb, 0, none⟩)) ∧ z6.cell? (wa.add i) = some (.pointer (some ⟨o.rb, 0, none⟩)) ∧ z6.cell? ⟨o.rb, 2, none⟩ = some (.slice ra R'.told.length rc) := q8
              refine hK9.out _ _ (fun _ => q9) ?_
              clear hK9 K9 q8
              try simp only [Act.put, List.setIfInBounds_toArray, List.set_cons_zero, List.set_cons_succ]
              refine AnyK.one (i := 19) (by kernel_rfl) rfl (fun K9 hK9 => ?_)
              go_simp
              refine hK9.out _ _ (fun _ => q9) ?_
              clear hK9 K9
              try simp only [Act.put, List.setIfInBounds_toArray, List.set_cons_zero, List.set_cons_succ]
              refine AnyK.one (i := 20) (by kernel_rfl) rfl (fun K9 hK9 => ?_)
              go_simp
              refine hK9.out _ _ (fun _ => q9) ?_
              clear hK9 K9
              try simp only [Act.put, List.setIfInBounds_toArray, List.set_cons_zero, List.set_cons_succ]
              refine AnyK.done (by kernel_rfl) ?_ _
              refine NoPanic.normal ?_
              have HXX : Hid (Heap w z6 ((cellP ca s' :: cellP cb s' :: ([rowP 29 1 (.slice (some la) N lc) N (os.map tbV), rowP 31 1 (.slice (some wa) N wc) N (os.map rbV)] ++ M)) ++ ({ o with T := T', Z := Z', R := R' } : O1).L ca)) := Lib.hid (H2H.out.go F6)
              clear H2H OKK HTD DN RAB QS q5
              clear q7 q9
              go_wp2_with fail
              go_meet
              exact ⟨rfl, HXX⟩
          case rest =>
          obtain ⟨rfl, HZ8⟩ := hcut
          rename World => z8
          have HZ := HZ8.out
          rw [← HMM.out] at HZ
          have HZ2 := Lib.hid (many_back (o' := { o with T := T', Z := Z', R := R' }) HOO.out HHH.out.1 rfl rfl HZ)
          clear HZ HZ8 H2H DN RAB QS HTD
          go_wp2_with fail
          refine ⟨⟨k + 1, s', os.set i { o with T := T', Z := Z', R := R' }, by go_num, by omega, Lib.hid ⟨by rw [List.length_set]; exact HHH.out.1, by have := HF.out.1; have := HHH.out.2; omega⟩, Lib.hid (fun o2 ho2 => ?_), HZ2⟩, by simp [intOf]; omega⟩
          rcases List.mem_or_eq_of_mem_set ho2 with ho2 | rfl
          · exact (HO.out o2 ho2).more
          · exact OKK.out
        · --END
          obtain ⟨xa, xc, c0, _, _⟩ := cell_op HH.out 0 rfl
          obtain ⟨ya, yc, d0, _, _⟩ := cell_op HH.out 1 rfl
          have HB := Lib.hid HH.out
          clear HH HO HL
          go_upto_region 24 with fail
          go_quiet (fail)
          go_wp2_with fail
          go_ret
          exact ⟨by simp, (HB.out.drewN _).below⟩
end Go.Proofs.Ytblijgdmfohfcaa
