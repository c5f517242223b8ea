/- load.up: nodes above a row of nodes: its contract. No condition but that there is room. -/
import Derived.Test.YtkbnoceekileiaaFrn
import Derived.Deep.DeepCutAuto
import Derived.Deep.CutRange
namespace Go.Proofs.Ytkbnoceekileiaa
open Go Go.RowKit
set_option linter.unusedVariables false
set_option linter.unusedSimpArgs false
set_option maxRecDepth 100000
theorem intC_snoc (l : List Int) (x : Int) : intC (l ++ [x]) = intC l ++ [.int .i64 x] := by simp [intC]
theorem add_zero' (a : Addr) : a.add 0 = a := by unfold Addr.add; simp
theorem sliced_k (g : Addr) (k n c : Nat) : sliced (some g) k n c 1 = .slice (if c = k then some g else some (g.add k)) (n - k) (c - k) := by simp [sliced]
theorem name_w {P : World → Prop} {w : World} (h : ∀ z, w = z → P z) : P w := h w rfl
theorem getD_cons {l : List Int} {x : Int} {m : Nat} (h : l[m]? = some x) : (l.drop m).getD 0 0 = x ∧ (intC (l.drop m))[0]? = some (.int .i64 x) := by
  have h1 : (l.drop m)[0]? = some x := by rw [List.getElem?_drop]; exact h
  exact ⟨by rw [List.getD_eq_getElem?_getD, h1]; rfl, by unfold intC; rw [List.getElem?_map, h1]; rfl⟩
def wdQ (c : Wc) (s : Wd) (q : Piece) : List Piece := [blkP c.wb 67 c.cells, q, tabP c.rb s.rt, epoP c.eb s.ep]
def upN (n b i : Nat) (row fs : List Int) : List Nd := upNds ((partsN n b).take i) row fs
def upK (n b i : Nat) (fs : List Int) : List Int := upKeys ((partsN n b).take i) fs
theorem upN_next {n b i : Nat} (h : i < partK n b) (row fs : List Int) : upN n b (i + 1) row fs = upN n b i row fs ++ [⟨true, false, [], ((fs.drop (sumP n b i)).take (partAt n b i)).drop 1, (row.drop (sumP n b i)).take (partAt n b i)⟩] := by
  unfold upN
  rw [partsN_next h, upNds_snoc]
  rfl
theorem upK_next {n b i : Nat} (h : i < partK n b) (fs : List Int) : upK n b (i + 1) fs = upK n b i fs ++ [(fs.drop (sumP n b i)).getD 0 0] := by
  unfold upK
  rw [partsN_next h, upKeys_snoc]
  rfl
theorem upN_len {n b i : Nat} (h : i ≤ partK n b) (row fs : List Int) : (upN n b i row fs).length = i := by
  unfold upN
  rw [upNds_len, List.length_take, partsN_len]
  omega
set_option maxHeartbeats 200000000 in
theorem up_h {w0 w : World} {c : Wc} {s : Wd} {nds : List Nd} {Z : List Piece} (h : Heap w0 w (wdL c (ldW s nds) ++ Z)) (n b : Nat) (row fs : List Int) (hn : 2 ≤ n ∧ n ≤ 60000) (hrow : row.length = n) (hfs : fs.length = n) (hb : 2 ≤ b ∧ b ≤ 1000000) (hcb : c.b = (b : Int))
    (rm : Room s.ar (nds.length + partK n b)) (v1 v2 : Value) (hR : ∀ z q l, Heap w0 z (l ++ (wdQ c s q ++ Z)) → RdV z v1 n 1 (intC row) ∧ RdV z v2 n 1 (intC fs)) :
    Calls Try.prog 58 #[.pointer (some ⟨c.wb, 0, none⟩), v1, v2] w fun e w' => ∃ a1 c1 a2 c2, e = .returned (.tuple #[.slice a1 (partK n b) c1, .slice a2 (partK n b) c2]) ∧
      Heap w0 w' ([rowP 65 1 (.slice a1 (partK n b) c1) (partK n b) (intC (refsN (s.ar.slots.length + nds.length) (partK n b))), rowP 2 1 (.slice a2 (partK n b) c2) (partK n b) (intC (upKeys (partsN n b) fs))] ++ (wdL c (ldW s (nds ++ upNds (partsN n b) row fs)) ++ Z)) := by
  obtain ⟨n1, n2⟩ := hn
  obtain ⟨b1, b2⟩ := hb
  obtain ⟨a1, c1, rfl⟩ := (hR _ (areP c.ab (addAr s.ar nds)) [] h).1.len
  obtain ⟨a2, c2, rfl⟩ := (hR _ (areP c.ab (addAr s.ar nds)) [] h).2.len
  have C0 := h.blk 0 (b := c.wb) (t := 67) (c := c.cells) rfl
  have e0 : w.cell? ⟨c.wb, 4, none⟩ = some (.int .i64 (b : Int)) := by rw [← hcb]; exact C0.cell 4
  have CP := Lib.hid (Parts_h h n b ⟨by omega, by omega⟩ ⟨by omega, b2⟩)
  have hk1 := partK_pos n b
  have hk2 : partK n b ≤ 60000 := Nat.le_trans (partK_le (by omega) (by omega)) n2
  have HRM := Lib.hid rm
  have HLEN := Lib.hid (And.intro hrow hfs)
  have HRD : Hid (∀ z q l, Heap w0 z (l ++ (wdQ c s q ++ Z)) → RdV z (.slice a1 (n - sumP n b 0) c1) (n - sumP n b 0) 1 (intC (row.drop (sumP n b 0))) ∧ RdV z (.slice a2 (n - sumP n b 0) c2) (n - sumP n b 0) 1 (intC (fs.drop (sumP n b 0)))) := Lib.hid (fun z q l hz => by
    have e : sumP n b 0 = 0 := rfl
    rw [e]
    exact hR z q l hz)
  clear h hR rm C0 hrow hfs hcb
  obtain ⟨i0, hi0, hz0, hz1, hz2⟩ := info_parts info_ref
  have I0 := Lib.hid (And.intro hi0 (And.intro hz0 (And.intro hz1 hz2)))
  obtain ⟨j0, hj0, jz0, jz1, jz2⟩ := info_parts info_i64
  have J0 := Lib.hid (And.intro hj0 (And.intro jz0 (And.intro jz1 jz2)))
  clear hi0 hz0 hz1 hz2 hj0 jz0 jz1 jz2
  go_enter Try.func58, Try.ntmps58
  go_wp2_with fail
  refine CP.out.mono ?_
  rintro e w2 ⟨pa, pc, rfl, H2⟩
  clear CP e0
  have HH : Hid (Heap w0 w2 ([rowP 65 1 (.slice none 0 0) 0 (intC (refsN (s.ar.slots.length + nds.length) 0)), rowP 2 1 (.slice none 0 0) 0 (intC (upK n b 0 fs)), rowP 3 1 (.slice pa (partK n b) pc) (partK n b) (intsC (partsN n b))] ++ (wdL c (ldW s (nds ++ upN n b 0 row fs)) ++ Z))) := Lib.hid (by
    have e : upN n b 0 row fs = [] := rfl
    rw [e, List.append_nil]
    exact ((H2.lastF.rowNilF 2 1).rowNilF 65 1))
  clear H2
  go_wp2_with fail
  go_loopw [1, 2, 8, 9, 22] (fun s1 s2 s8 s9 q wr => ∃ (i : Nat) (a1 : Option Addr) (c1 : Nat) (a2 : Option Addr) (c2 : Nat) (ao : Option Addr) (co : Nat) (ak : Option Addr) (ck : Nat), q = .int .i64 (i : Nat) ∧ i ≤ partK n b ∧ s1 = .slice a1 (n - sumP n b i) c1 ∧ s2 = .slice a2 (n - sumP n b i) c2 ∧ s8 = .slice ao i co ∧ s9 = .slice ak i ck ∧ Hid (∀ z q l, Heap w0 z (l ++ (wdQ c s q ++ Z)) → RdV z (.slice a1 (n - sumP n b i) c1) (n - sumP n b i) 1 (intC (row.drop (sumP n b i))) ∧ RdV z (.slice a2 (n - sumP n b i) c2) (n - sumP n b i) 1 (intC (fs.drop (sumP n b i)))) ∧ Hid (Heap w0 wr ([rowP 65 1 (.slice ao i co) i (intC (refsN (s.ar.slots.length + nds.length) i)), rowP 2 1 (.slice ak i ck) i (intC (upK n b i fs)), rowP 3 1 (.slice pa (partK n b) pc) (partK n b) (intsC (partsN n b))] ++ (wdL c (ldW s (nds ++ upN n b i row fs)) ++ Z)))) (fun _ _ _ _ q _ => partK n b - (intOf q).toNat)
  case atStart =>
    have e : sumP n b 0 = 0 := rfl
    refine ⟨0, a1, c1, a2, c2, none, 0, none, 0, rfl, Nat.zero_le _, ?_, ?_, rfl, rfl, HRD, HH⟩ <;> rw [e] <;> rfl
  case round =>
  clear HH HRD
  obtain ⟨i, a1, c1, a2, c2, ao, co, ak, ck, rfl, hi, rfl, rfl, rfl, rfl, HRD, HH⟩ := hrel
  by_cases hlt : i < partK n b
  · have HLT := Lib.hid hlt
    have hm1 := sumP_le n b (i + 1)
    rw [sumP_next hlt] at hm1
    have hp1 : 1 ≤ partAt n b i := partAt_pos (by omega) (by omega)
    obtain ⟨m, hm⟩ : ∃ m, sumP n b i = m := ⟨_, rfl⟩
    obtain ⟨k, hk⟩ : ∃ k, partAt n b i = k := ⟨_, rfl⟩
    rw [hm, hk] at hm1
    rw [hk] at hp1
    obtain ⟨lm, hlm⟩ : ∃ x, n - m = x := ⟨_, rfl⟩
    obtain ⟨fk, hfk⟩ : ∃ x, fs[m]? = some x := ⟨_, List.getElem?_eq_getElem (by rw [HLEN.out.2]; omega)⟩
    obtain ⟨gk1, gk2⟩ := getD_cons hfk
    have HRD2 := HRD.out
    rw [hm, hlm] at HRD2 ⊢
    clear HRD
    have QP := (HH.out.row 2 (t := 3) (sz := 1) (n := partK n b) (v := .slice pa (partK n b) pc) (us := intsC (partsN n b)) rfl).rdv
    obtain ⟨pa1, rfl, _, hatp⟩ := QP.at (by omega)
    have y1 : World.cell? _ (pa1.add i) = some (.int .i64 (k : Int)) := hatp i _ (by unfold intsC; rw [List.getElem?_map, partsN_get HLT.out, hk]; rfl)
    obtain ⟨r1, r2⟩ := HRD2 _ (areP c.ab (addAr s.ar (nds ++ upN n b i row fs))) _ HH.out
    obtain ⟨g1, rfl, hc1, _⟩ := r1.at (by omega)
    obtain ⟨g2, rfl, hc2, hat2⟩ := r2.at (by omega)
    have y2 : ∀ z q l, Heap w0 z (l ++ (wdQ c s q ++ Z)) → World.cell? z g2 = some (.int .i64 fk) ∧ World.cell? z ⟨c.wb, 0, none⟩ = some (pt c.ab) := fun z q l hz => by
      obtain ⟨_, r2⟩ := HRD2 z q l hz
      obtain ⟨g3, e3, _, hat3⟩ := r2.at (by omega)
      have e3 : g2 = g3 := by simpa using e3
      subst e3
      exact ⟨by have := hat3 0 _ gk2; rwa [add_zero'] at this, ((Heap.swapF hz).blk 0 (b := c.wb) (t := 67) (c := c.cells) rfl).cell 0⟩
    have y2 := Lib.hid y2
    -- the parts
    obtain ⟨vk, hvk⟩ : ∃ v, (Value.slice (if c2 = 1 then some g2 else some ⟨g2.block, g2.off + 1, none⟩) (k - 1) (c2 - 1)) = v := ⟨_, rfl⟩
    obtain ⟨vw, hvw⟩ : ∃ v, Value.slice (some g1) k c1 = v := ⟨_, rfl⟩
    obtain ⟨vr, hvr⟩ : ∃ v, (if c1 = k then some g1 else some (g1.add k)) = v := ⟨_, rfl⟩
    obtain ⟨vf, hvf⟩ : ∃ v, (if c2 = k then some g2 else some (g2.add k)) = v := ⟨_, rfl⟩
    have hkl : k ≤ lm := by omega
    have hkc1 : k ≤ c1 := by omega
    have hkc2 : k ≤ c2 := by omega
    have hki : (1 : Int) ≤ (k : Int) := by omega
    have hl0 : (0 : Int) < (lm : Int) := by omega
    have hl0' : 0 < lm := by omega
    have hkli : (k : Int) ≤ (lm : Int) := by omega
    have HV : Hid (∀ z q l, Heap w0 z (l ++ (wdQ c s q ++ Z)) → (RdV z vk (k - 1) 1 (intC (((fs.drop m).take k).drop 1)) ∧ RdV z vw k 1 (intC ((row.drop m).take k))) ∧ RdV z (.slice vr (lm - k) (c1 - k)) (lm - k) 1 (intC (row.drop (m + k))) ∧ RdV z (.slice vf (lm - k) (c2 - k)) (lm - k) 1 (intC (fs.drop (m + k)))) := Lib.hid (fun z q l hz => by
      obtain ⟨r1, r2⟩ := HRD2 z q l hz
      have t1 := r2.sliced (lo := 1) (hi := k) hp1 hkl
      have t2 := RdV.takeN r1 hkl (c' := c1) hkc1
      have t3 := r1.sliced (lo := k) (hi := lm) hkl (Nat.le_refl _)
      have t4 := r2.sliced (lo := k) (hi := lm) hkl (Nat.le_refl _)
      rw [intC_take, intC_drop] at t1
      rw [intC_take] at t2
      have t1 : RdV z (Value.slice (if c2 = 1 then some g2 else some ⟨g2.block, g2.off + 1, none⟩) (k - 1) (c2 - 1)) (k - 1) 1 _ := t1
      rw [hvk] at t1
      rw [hvw] at t2
      rw [sliced_k, hvr, List.take_of_length_le (by rw [r1.1]; exact Nat.le_refl _), intC_drop, List.drop_drop] at t3
      rw [sliced_k, hvf, List.take_of_length_le (by rw [r2.1]; exact Nat.le_refl _), intC_drop, List.drop_drop] at t4
      exact ⟨⟨t1, t2⟩, t3, t4⟩)
    obtain ⟨x1, hx1⟩ : ∃ x, ((fs.drop m).take k).drop 1 = x := ⟨_, rfl⟩
    obtain ⟨x2, hx2⟩ : ∃ x, (row.drop m).take k = x := ⟨_, rfl⟩
    have hl1 : x1.length = k - 1 := by rw [← hx1, List.length_drop, List.length_take, List.length_drop, HLEN.out.2]; omega
    have hl2 : x2.length = k := by rw [← hx2, List.length_take, List.length_drop, HLEN.out.1]; omega
    rw [hx1, hx2] at HV
    have HUN := upN_next HLT.out row fs
    have HUK := upK_next HLT.out fs
    rw [hm, hk, hx1, hx2] at HUN
    rw [hm, gk1] at HUK
    have HSN := sumP_next HLT.out
    rw [hm, hk] at HSN
    have hln : (nds ++ upN n b i row fs).length < nds.length + partK n b := by rw [List.length_append, upN_len hi]; omega
    have hln2 : (nds ++ upN n b i row fs).length = nds.length + i := by rw [List.length_append, upN_len hi]
    have HB := HRM.out.more (Nat.le_of_lt hln)
    have CA := fun (z : World) (l : List Piece) (hz : Heap w0 z (l ++ (wdL c (ldW s (nds ++ upN n b i row fs)) ++ Z))) => Alloc_h (a := c.ab) (ar := addAr s.ar (nds ++ upN n b i row fs)) (Heap.swapF hz) 1 rfl HB ⟨true, false, [], x1, x2⟩ ⟨by simp, by show x1.length ≤ _; omega, by show x2.length ≤ _; omega⟩ nilS vk vw (fun y q hy => by
      have hy2 : RdV y vk (k - 1) 1 (intC x1) ∧ RdV y vw k 1 (intC x2) := (HV.out y q l (Heap.swapF (B := wdQ c s q ++ Z) (C := l) hy)).1
      exact ⟨RdV_nil y 2, by show RdV y vk x1.length 1 _; rw [hl1]; exact hy2.1, by show RdV y vw x2.length 1 _; rw [hl2]; exact hy2.2⟩)
    have CA := Lib.hid CA
    have HF : Hid (∀ z, (∃ l, Hid (Heap w0 z (l ++ (wdL c (ldW s (nds ++ upN n b i row fs)) ++ Z)))) → World.cell? z g2 = some (.int .i64 fk) ∧ World.cell? z ⟨c.wb, 0, none⟩ = some (pt c.ab)) := Lib.hid (fun z ⟨l, hz⟩ => y2.out z (areP c.ab (addAr s.ar (nds ++ upN n b i row fs))) l hz.out)
    have HF2 : Hid (∀ z, (∃ l, Hid (Heap w0 z (l ++ (wdL c (ldW s (nds ++ upN n b (i + 1) row fs)) ++ Z)))) → World.cell? z g2 = some (.int .i64 fk)) := Lib.hid (fun z ⟨l, hz⟩ => (y2.out z (areP c.ab (addAr s.ar (nds ++ upN n b (i + 1) row fs))) l hz.out).1)
    have HL := Lib.hid (show i + 1 ≤ maxLen ∧ (i + 1) * 8 ≤ 140737488355328 by unfold maxLen; omega)
    have HE := Lib.hid (And.intro hvk (And.intro hvw (And.intro hvr hvf)))
    have HX := Lib.hid (And.intro hx1 hx2)
    have HM := Lib.hid (And.intro hm (And.intro hk (And.intro hlm hfk)))
    have HN := Lib.hid (And.intro HUN (And.intro HUK (And.intro HSN (And.intro hln hln2))))
    clear hvk hvw hvr hvf hx1 hx2 hm hk hlm hfk HUN HUK HSN hln hln2 y2 gk1 gk2 hat2 hatp QP r1 r2 HRD2 hl1 hl2 HB
    go_upto_region 6 with fail
    have HZ := Lib.hid HH.out.drew
    clear HH y1
    refine wp_region_noPanic ?_
    refine AnyK.start (ks := [12, 13, 14, 15, 16, 17]) (S := fun w' => ∃ l, Hid (Heap w0 w' (l ++ (wdL c (ldW s (nds ++ upN n b i row fs)) ++ Z)))) (by kernel_rfl) (by exact ⟨_, HZ⟩) (fun _ => ?_)
    refine AnyK.takeB (i := 0) (v := ?_) rfl (by kernel_rfl) (by kernel_rfl) (by kernel_rfl) (by kernel_rfl) (fun _ _ _ h => h) (Or.inl ⟨by kernel_rfl, ?_⟩) (by exact ⟨_, HZ⟩) ?_
    rotate_left
    focus
      intro w9 hSw
      have hSw := HF.out w9 hSw
      go_simp
      try with_reducible rfl
    try simp only [Act.put, List.getElem_toArray, List.getElem_cons_zero, List.getElem_cons_succ, List.setIfInBounds_toArray, List.set_cons_zero, List.set_cons_succ]
    refine AnyK.takeB (i := 1) (v := ?_) rfl (by kernel_rfl) (by kernel_rfl) (by kernel_rfl) (by kernel_rfl) (fun _ _ _ h => h) (Or.inl ⟨by kernel_rfl, ?_⟩) (by exact ⟨_, HZ⟩) ?_
    rotate_left
    focus
      intro w9 hSw
      have hSw := HF.out w9 hSw
      go_simp
      try with_reducible rfl
    try simp only [Act.put, List.getElem_toArray, List.getElem_cons_zero, List.getElem_cons_succ, List.setIfInBounds_toArray, List.set_cons_zero, List.set_cons_succ]
    refine AnyK.takeB (i := 2) (v := ?_) rfl (by kernel_rfl) (by kernel_rfl) (by kernel_rfl) (by kernel_rfl) (fun _ _ _ h => h) (Or.inl ⟨by kernel_rfl, ?_⟩) (by exact ⟨_, HZ⟩) ?_
    rotate_left
    focus
      intro w9 hSw
      have hSw := HF.out w9 hSw
      go_simp
      try with_reducible rfl
    try simp only [Act.put, List.getElem_toArray, List.getElem_cons_zero, List.getElem_cons_succ, List.setIfInBounds_toArray, List.set_cons_zero, List.set_cons_succ]
    refine AnyK.takeB (i := 3) (v := ?_) rfl (by kernel_rfl) (by kernel_rfl) (by kernel_rfl) (by kernel_rfl) (fun _ _ _ h => h) (Or.inl ⟨by kernel_rfl, ?_⟩) (by exact ⟨_, HZ⟩) ?_
    rotate_left
    focus
      intro w9 hSw
      have hSw := HF.out w9 hSw
      go_simp
      try with_reducible rfl
    try simp only [Act.put, List.getElem_toArray, List.getElem_cons_zero, List.getElem_cons_succ, List.setIfInBounds_toArray, List.set_cons_zero, List.set_cons_succ]
    refine AnyK.takeB (i := 4) (v := ?_) rfl (by kernel_rfl) (by kernel_rfl) (by kernel_rfl) (by kernel_rfl) (fun _ _ _ h => h) (Or.inl ⟨by kernel_rfl, ?_⟩) (by exact ⟨_, HZ⟩) ?_
    rotate_left
    focus
      intro w9 hSw
      have hSw := HF.out w9 hSw
      go_simp
      try with_reducible rfl
    try simp only [Act.put, List.getElem_toArray, List.getElem_cons_zero, List.getElem_cons_succ, List.setIfInBounds_toArray, List.set_cons_zero, List.set_cons_succ]
    refine AnyK.takeB (i := 5) (v := ?_) rfl (by kernel_rfl) (by kernel_rfl) (by kernel_rfl) (by kernel_rfl) (fun _ _ _ h => h) (Or.inl ⟨by kernel_rfl, ?_⟩) (by exact ⟨_, HZ⟩) ?_
    rotate_left
    focus
      intro w9 hSw
      have hSw := HF.out w9 hSw
      go_simp
      try with_reducible rfl
    try simp only [Act.put, List.getElem_toArray, List.getElem_cons_zero, List.getElem_cons_succ, List.setIfInBounds_toArray, List.set_cons_zero, List.set_cons_succ]
    refine AnyK.takeB (i := 6) (v := ?_) rfl (by kernel_rfl) (by kernel_rfl) (by kernel_rfl) (by kernel_rfl) (fun _ _ _ h => h) (Or.inl ⟨by kernel_rfl, ?_⟩) (by exact ⟨_, HZ⟩) ?_
    rotate_left
    focus
      intro w9 hSw
      have hSw := HF.out w9 hSw
      go_simp
      try with_reducible rfl
    try simp only [Act.put, List.getElem_toArray, List.getElem_cons_zero, List.getElem_cons_succ, List.setIfInBounds_toArray, List.set_cons_zero, List.set_cons_succ]
    refine AnyK.takeB (i := 7) (v := ?_) rfl (by kernel_rfl) (by kernel_rfl) (by kernel_rfl) (by kernel_rfl) (fun _ _ _ h => h) (Or.inl ⟨by kernel_rfl, ?_⟩) (by exact ⟨_, HZ⟩) ?_
    rotate_left
    focus
      intro w9 hSw
      have hSw := HF.out w9 hSw
      go_simp
      try with_reducible rfl
    try simp only [Act.put, List.getElem_toArray, List.getElem_cons_zero, List.getElem_cons_succ, List.setIfInBounds_toArray, List.set_cons_zero, List.set_cons_succ]
    refine AnyK.takeB (i := 8) (v := ?_) rfl (by kernel_rfl) (by kernel_rfl) (by kernel_rfl) (by kernel_rfl) (fun _ _ _ h => h) (Or.inl ⟨by kernel_rfl, ?_⟩) (by exact ⟨_, HZ⟩) ?_
    rotate_left
    focus
      intro w9 hSw
      have hSw := HF.out w9 hSw
      go_simp
      try with_reducible rfl
    try simp only [Act.put, List.getElem_toArray, List.getElem_cons_zero, List.getElem_cons_succ, List.setIfInBounds_toArray, List.set_cons_zero, List.set_cons_succ]
    refine AnyK.takeB (i := 9) (v := ?_) rfl (by kernel_rfl) (by kernel_rfl) (by kernel_rfl) (by kernel_rfl) (fun _ _ _ h => h) (Or.inl ⟨by kernel_rfl, ?_⟩) (by exact ⟨_, HZ⟩) ?_
    rotate_left
    focus
      intro w9 hSw
      have hSw := HF.out w9 hSw
      go_simp
      try with_reducible rfl
    try simp only [Act.put, List.getElem_toArray, List.getElem_cons_zero, List.getElem_cons_succ, List.setIfInBounds_toArray, List.set_cons_zero, List.set_cons_succ]
    refine AnyK.takeB (i := 10) (v := ?_) rfl (by kernel_rfl) (by kernel_rfl) (by kernel_rfl) (by kernel_rfl) (fun _ _ _ h => h) (Or.inl ⟨by kernel_rfl, ?_⟩) (by exact ⟨_, HZ⟩) ?_
    rotate_left
    focus
      intro w9 hSw
      have hSw := HF.out w9 hSw
      go_simp
      try with_reducible rfl
    try simp only [Act.put, List.getElem_toArray, List.getElem_cons_zero, List.getElem_cons_succ, List.setIfInBounds_toArray, List.set_cons_zero, List.set_cons_succ]
    refine AnyK.takeB (i := 11) (v := ?_) rfl (by kernel_rfl) (by kernel_rfl) (by kernel_rfl) (by kernel_rfl) (fun _ _ _ h => h) (Or.inl ⟨by kernel_rfl, ?_⟩) (by exact ⟨_, HZ⟩) ?_
    rotate_left
    focus
      intro w9 hSw
      have hSw := HF.out w9 hSw
      go_simp
      try with_reducible rfl
    try simp only [Act.put, List.getElem_toArray, List.getElem_cons_zero, List.getElem_cons_succ, List.setIfInBounds_toArray, List.set_cons_zero, List.set_cons_succ]
    rw [HE.out.1, HE.out.2.1]
    refine AnyK.one (i := 12) (by kernel_rfl) rfl (fun K9 hK9 => ?_)
    go_simp
    refine (CA.out _ _ HZ.out).mono ?_
    rintro e w5 ⟨rfl, H9⟩
    rw [HRM.out.alloc _ HN.out.2.2.2.1]
    rw [HRM.out.alloc _ HN.out.2.2.2.1, List.append_assoc nds, ← HN.out.1] at H9
    have H9 := Heap.swapF (B := wdL c (ldW s (nds ++ upN n b (i + 1) row fs)) ++ Z) H9
    rw [HN.out.2.2.2.2, ← Nat.add_assoc]
    obtain ⟨rv, hrv⟩ : ∃ r, refOf ((s.ar.slots.length + nds.length + i : Nat) : Int) 1 = r := ⟨_, rfl⟩
    rw [hrv]
    have HRV := Lib.hid hrv
    have HH6 := Lib.hid H9
    clear H9 hrv
    dsimp only
    refine hK9.out _ _ (fun h => absurd (by decide) h) ?_
    clear hK9 K9
    try simp only [Act.put, List.getElem_toArray, List.getElem_cons_zero, List.getElem_cons_succ, List.setIfInBounds_toArray, List.set_cons_zero, List.set_cons_succ]
    refine AnyK.phase (S' := fun _ => True) (ks' := []) (by kernel_rfl) ?_
    refine AnyK.take (i := 13) (v := ?_) rfl (by kernel_rfl) (by kernel_rfl) (by kernel_rfl) (by kernel_rfl) (fun _ _ _ h => h) (Or.inl ⟨by rfl, ?_⟩) (by exact trivial) ?_
    rotate_left
    focus
      intro w9 hSw
      try dsimp only at hSw
      go_simp
      try with_reducible rfl
    try simp only [Act.put, List.getElem_toArray, List.getElem_cons_zero, List.getElem_cons_succ, List.setIfInBounds_toArray, List.set_cons_zero, List.set_cons_succ]
    refine AnyK.take (i := 14) (v := ?_) rfl (by kernel_rfl) (by kernel_rfl) (by kernel_rfl) (by kernel_rfl) (fun _ _ _ h => h) (Or.inl ⟨by rfl, ?_⟩) (by exact trivial) ?_
    rotate_left
    focus
      intro w9 hSw
      try dsimp only at hSw
      go_simp
      try with_reducible rfl
    try simp only [Act.put, List.getElem_toArray, List.getElem_cons_zero, List.getElem_cons_succ, List.setIfInBounds_toArray, List.set_cons_zero, List.set_cons_succ]
    refine AnyK.take (i := 15) (v := ?_) rfl (by kernel_rfl) (by kernel_rfl) (by kernel_rfl) (by kernel_rfl) (fun _ _ _ h => h) (Or.inl ⟨by rfl, ?_⟩) (by exact trivial) ?_
    rotate_left
    focus
      intro w9 hSw
      try dsimp only at hSw
      go_simp
      try with_reducible rfl
    try simp only [Act.put, List.getElem_toArray, List.getElem_cons_zero, List.getElem_cons_succ, List.setIfInBounds_toArray, List.set_cons_zero, List.set_cons_succ]
    refine AnyK.take (i := 16) (v := ?_) rfl (by kernel_rfl) (by kernel_rfl) (by kernel_rfl) (by kernel_rfl) (fun _ _ _ h => h) (Or.inl ⟨by rfl, ?_⟩) (by exact trivial) ?_
    rotate_left
    focus
      intro w9 hSw
      try dsimp only at hSw
      go_simp
      try with_reducible rfl
    try simp only [Act.put, List.getElem_toArray, List.getElem_cons_zero, List.getElem_cons_succ, List.setIfInBounds_toArray, List.set_cons_zero, List.set_cons_succ]
    refine AnyK.take (i := 17) (v := ?_) rfl (by kernel_rfl) (by kernel_rfl) (by kernel_rfl) (by kernel_rfl) (fun _ _ _ h => h) (Or.inl ⟨by rfl, ?_⟩) (by exact trivial) ?_
    rotate_left
    focus
      intro w9 hSw
      try dsimp only at hSw
      go_simp
      try with_reducible rfl
    try simp only [Act.put, List.getElem_toArray, List.getElem_cons_zero, List.getElem_cons_succ, List.setIfInBounds_toArray, List.set_cons_zero, List.set_cons_succ]
    clear HZ CA
    refine AnyK.done (by kernel_rfl) ?_ _
    refine NoPanic.normal ?_
    clear HF
    go_upto_region 7 with fail
    go_cut [8, 9] from 42 to 52 (fun s8 s9 wx => ∃ (ao : Option Addr) (co : Nat) (ak : Option Addr) (ck : Nat), s8 = .slice ao (i + 1) co ∧ s9 = .slice ak (i + 1) ck ∧ Hid (Heap w0 wx ([rowP 65 1 (.slice ao (i + 1) co) (i + 1) (intC (refsN (s.ar.slots.length + nds.length) (i + 1))), rowP 2 1 (.slice ak (i + 1) ck) (i + 1) (intC (upK n b (i + 1) fs)), rowP 3 1 (.slice (some pa1) (partK n b) pc) (partK n b) (intsC (partsN n b))] ++ (wdL c (ldW s (nds ++ upN n b (i + 1) row fs)) ++ Z))))
    case first =>
      have HZ := Lib.hid HH6.out.drew
      clear HH6
      refine wp_region_noPanic ?_
      refine AnyK.start (ks := [10, 11]) (S := fun w' => ∃ l, Hid (Heap w0 w' (l ++ (wdL c (ldW s (nds ++ upN n b (i + 1) row fs)) ++ Z)))) (by kernel_rfl) (by exact ⟨_, HZ⟩) (fun _ => ?_)
      refine AnyK.takeB (i := 0) (v := ?_) rfl (by kernel_rfl) (by kernel_rfl) (by kernel_rfl) (by kernel_rfl) (fun _ _ _ h => h) (Or.inl ⟨by kernel_rfl, ?_⟩) (by exact ⟨_, HZ⟩) ?_
      rotate_left
      focus
        intro w9 hSw
        have hSw := HF2.out w9 hSw
        go_simp
        try with_reducible rfl
      try simp only [Act.put, List.getElem_toArray, List.getElem_cons_zero, List.getElem_cons_succ, List.setIfInBounds_toArray, List.set_cons_zero, List.set_cons_succ]
      refine AnyK.takeB (i := 1) (v := ?_) rfl (by kernel_rfl) (by kernel_rfl) (by kernel_rfl) (by kernel_rfl) (fun _ _ _ h => h) (Or.inl ⟨by kernel_rfl, ?_⟩) (by exact ⟨_, HZ⟩) ?_
      rotate_left
      focus
        intro w9 hSw
        have hSw := HF2.out w9 hSw
        go_simp
        try with_reducible rfl
      try simp only [Act.put, List.getElem_toArray, List.getElem_cons_zero, List.getElem_cons_succ, List.setIfInBounds_toArray, List.set_cons_zero, List.set_cons_succ]
      refine AnyK.takeB (i := 4) (v := ?_) rfl (by kernel_rfl) (by kernel_rfl) (by kernel_rfl) (by kernel_rfl) (fun _ _ _ h => h) (Or.inl ⟨by kernel_rfl, ?_⟩) (by exact ⟨_, HZ⟩) ?_
      rotate_left
      focus
        intro w9 hSw
        have hSw := HF2.out w9 hSw
        go_simp
        try with_reducible rfl
      try simp only [Act.put, List.getElem_toArray, List.getElem_cons_zero, List.getElem_cons_succ, List.setIfInBounds_toArray, List.set_cons_zero, List.set_cons_succ]
      refine AnyK.takeB (i := 5) (v := ?_) rfl (by kernel_rfl) (by kernel_rfl) (by kernel_rfl) (by kernel_rfl) (fun _ _ _ h => h) (Or.inl ⟨by kernel_rfl, ?_⟩) (by exact ⟨_, HZ⟩) ?_
      rotate_left
      focus
        intro w9 hSw
        have hSw := HF2.out w9 hSw
        go_simp
        try with_reducible rfl
      try simp only [Act.put, List.getElem_toArray, List.getElem_cons_zero, List.getElem_cons_succ, List.setIfInBounds_toArray, List.set_cons_zero, List.set_cons_succ]
      refine AnyK.takeB (i := 6) (v := ?_) rfl (by kernel_rfl) (by kernel_rfl) (by kernel_rfl) (by kernel_rfl) (fun _ _ _ h => h) (Or.inl ⟨by kernel_rfl, ?_⟩) (by exact ⟨_, HZ⟩) ?_
      rotate_left
      focus
        intro w9 hSw
        have hSw := HF2.out w9 hSw
        go_simp
        try with_reducible rfl
      try simp only [Act.put, List.getElem_toArray, List.getElem_cons_zero, List.getElem_cons_succ, List.setIfInBounds_toArray, List.set_cons_zero, List.set_cons_succ]
      refine AnyK.takeB (i := 7) (v := ?_) rfl (by kernel_rfl) (by kernel_rfl) (by kernel_rfl) (by kernel_rfl) (fun _ _ _ h => h) (Or.inl ⟨by kernel_rfl, ?_⟩) (by exact ⟨_, HZ⟩) ?_
      rotate_left
      focus
        intro w9 hSw
        have hSw := HF2.out w9 hSw
        go_simp
        try with_reducible rfl
      try simp only [Act.put, List.getElem_toArray, List.getElem_cons_zero, List.getElem_cons_succ, List.setIfInBounds_toArray, List.set_cons_zero, List.set_cons_succ]
      clear hc1 hc2
      refine name_w (fun z0 hz0 => ?_)
      rw [hz0] at HZ
      clear hz0
      refine AnyK.two (i := 2) (j := 8) (by kernel_rfl) rfl rfl (fun K9 hK9 => ?_) (fun K9 hK9 => ?_)
      · go_simp
        have H9 := HZ.out.allocF 65 #[.int .i64 rv]
        generalize z0.heap.size = bo at H9 hK9 ⊢
        generalize z0.alloc (.cells #[.int .i64 rv] 65) = x2 at H9 hK9 ⊢
        have H9 : Heap w0 x2 ([blkP bo 65 #[.int .i64 rv], rowP 65 1 (.slice ao i co) i (intC (refsN (s.ar.slots.length + nds.length) i)), rowP 2 1 (.slice ak i ck) i (intC (upK n b i fs)), rowP 3 1 (.slice (some pa1) (partK n b) pc) (partK n b) (intsC (partsN n b))] ++ (wdL c (ldW s (nds ++ upN n b (i + 1) row fs)) ++ Z)) := H9
        have AHH1 := Lib.hid H9
        clear H9 HZ
        refine hK9.out _ _ (fun _ => ⟨_, AHH1⟩) ?_
        clear hK9 K9
        try simp only [Act.put, List.getElem_toArray, List.getElem_cons_zero, List.getElem_cons_succ, List.setIfInBounds_toArray, List.set_cons_zero, List.set_cons_succ]
        refine AnyK.two (i := 3) (j := 8) (by kernel_rfl) rfl rfl (fun K9 hK9 => ?_) (fun K9 hK9 => ?_)
        · refine step_append_typed _ (by rfl) (.tmp 42) (.tmp 44) 108 (by rfl) 65 i0 (.int .i64 0) 1 8 Try.underlying108 I0.out.1 I0.out.2.1 I0.out.2.2.1 I0.out.2.2.2 rfl (by decide) (.slice ao i co) i (intC (refsN (s.ar.slots.length + nds.length) i)) (by simp [Act.eval]) (AHH1.out.row 1 rfl) (.slice (some ⟨bo, 0, none⟩) 1 1) 1 [.int .i64 rv] (by simp [Act.eval]) (RdV.block (cs := #[.int .i64 rv]) (t := 65) (AHH1.out.blk 0 rfl) rfl (by decide)) (by simp [Value.oneCell']) HL.out.1 HL.out.2 ?_
          intro a3 c3 w3 q3 grow3 hat3
          have H9 := AHH1.out.growRow 1 rfl (Fr.refl _ _) q3 grow3 (fun g hg => (hat3 g hg).resolve_left (fun h => absurd h.1 (by decide)))
          clear q3 grow3 hat3
          have H9 : Heap w0 w3 ([blkP bo 65 #[.int .i64 rv], rowP 65 1 (.slice a3 (i + 1) c3) (i + 1) (intC (refsN (s.ar.slots.length + nds.length) i) ++ [.int .i64 rv]), rowP 2 1 (.slice ak i ck) i (intC (upK n b i fs)), rowP 3 1 (.slice (some pa1) (partK n b) pc) (partK n b) (intsC (partsN n b))] ++ (wdL c (ldW s (nds ++ upN n b (i + 1) row fs)) ++ Z)) := H9
          have BHH2 := Lib.hid H9
          clear H9 AHH1
          refine hK9.out _ _ (fun _ => ⟨_, BHH2⟩) ?_
          clear hK9 K9
          try simp only [Act.put, List.getElem_toArray, List.getElem_cons_zero, List.getElem_cons_succ, List.setIfInBounds_toArray, List.set_cons_zero, List.set_cons_succ]
          refine AnyK.one (i := 8) (by kernel_rfl) rfl (fun K9 hK9 => ?_)
          go_simp
          have H9 := BHH2.out.allocF 2 #[.int .i64 fk]
          generalize w3.heap.size = bk at H9 hK9 ⊢
          generalize w3.alloc (.cells #[.int .i64 fk] 2) = x8 at H9 hK9 ⊢
          have H9 : Heap w0 x8 ([blkP bk 2 #[.int .i64 fk], blkP bo 65 #[.int .i64 rv], rowP 65 1 (.slice a3 (i + 1) c3) (i + 1) (intC (refsN (s.ar.slots.length + nds.length) i) ++ [.int .i64 rv]), rowP 2 1 (.slice ak i ck) i (intC (upK n b i fs)), rowP 3 1 (.slice (some pa1) (partK n b) pc) (partK n b) (intsC (partsN n b))] ++ (wdL c (ldW s (nds ++ upN n b (i + 1) row fs)) ++ Z)) := H9
          have BHH3 := Lib.hid H9
          clear H9 BHH2
          refine hK9.out _ _ (fun _ => ⟨_, BHH3⟩) ?_
          clear hK9 K9
          try simp only [Act.put, List.getElem_toArray, List.getElem_cons_zero, List.getElem_cons_succ, List.setIfInBounds_toArray, List.set_cons_zero, List.set_cons_succ]
          refine AnyK.one (i := 9) (by kernel_rfl) rfl (fun K9 hK9 => ?_)
          refine step_append_typed _ (by rfl) (.tmp 46) (.tmp 50) 22 (by rfl) 2 j0 (.int .i64 0) 1 8 Try.underlying22 J0.out.1 J0.out.2.1 J0.out.2.2.1 J0.out.2.2.2 rfl (by decide) (.slice ak i ck) i (intC (upK n b i fs)) (by simp [Act.eval]) (BHH3.out.row 3 rfl) (.slice (some ⟨bk, 0, none⟩) 1 1) 1 [.int .i64 fk] (by simp [Act.eval]) (RdV.block (cs := #[.int .i64 fk]) (t := 2) (BHH3.out.blk 0 rfl) rfl (by decide)) (by simp [Value.oneCell']) HL.out.1 HL.out.2 ?_
          intro a9 c9 w9 q9 grow9 hat9
          have H9 := BHH3.out.growRow 3 rfl (Fr.refl _ _) q9 grow9 (fun g hg => (hat9 g hg).resolve_left (fun h => absurd h.1 (by decide)))
          clear q9 grow9 hat9
          have H9 : Heap w0 w9 ([blkP bk 2 #[.int .i64 fk], blkP bo 65 #[.int .i64 rv], rowP 65 1 (.slice a3 (i + 1) c3) (i + 1) (intC (refsN (s.ar.slots.length + nds.length) i) ++ [.int .i64 rv]), rowP 2 1 (.slice a9 (i + 1) c9) (i + 1) (intC (upK n b i fs) ++ [.int .i64 fk]), rowP 3 1 (.slice (some pa1) (partK n b) pc) (partK n b) (intsC (partsN n b))] ++ (wdL c (ldW s (nds ++ upN n b (i + 1) row fs)) ++ Z)) := H9
          have BHH4 := Lib.hid H9
          clear H9 BHH3
          refine hK9.out _ _ (fun _ => ⟨_, BHH4⟩) ?_
          clear hK9 K9
          try simp only [Act.put, List.getElem_toArray, List.getElem_cons_zero, List.getElem_cons_succ, List.setIfInBounds_toArray, List.set_cons_zero, List.set_cons_succ]
          refine AnyK.phase (S' := fun _ => True) (ks' := []) (by kernel_rfl) ?_
          refine AnyK.take (i := 10) (v := ?_) rfl (by kernel_rfl) (by kernel_rfl) (by kernel_rfl) (by kernel_rfl) (fun _ _ _ h => h) (Or.inl ⟨by rfl, ?_⟩) (by exact trivial) ?_
          rotate_left
          focus
            intro w9 hSw
            try dsimp only at hSw
            go_simp
            try with_reducible rfl
          try simp only [Act.put, List.getElem_toArray, List.getElem_cons_zero, List.getElem_cons_succ, List.setIfInBounds_toArray, List.set_cons_zero, List.set_cons_succ]
          refine AnyK.take (i := 11) (v := ?_) rfl (by kernel_rfl) (by kernel_rfl) (by kernel_rfl) (by kernel_rfl) (fun _ _ _ h => h) (Or.inl ⟨by rfl, ?_⟩) (by exact trivial) ?_
          rotate_left
          focus
            intro w9 hSw
            try dsimp only at hSw
            go_simp
            try with_reducible rfl
          try simp only [Act.put, List.getElem_toArray, List.getElem_cons_zero, List.getElem_cons_succ, List.setIfInBounds_toArray, List.set_cons_zero, List.set_cons_succ]
          have H9 := BHH4.out
          have H9 := H9.tailP.tailP
          refine AnyK.done (by kernel_rfl) ?_ _
          refine NoPanic.normal ?_
          have HX : Hid (Heap w0 _ ([rowP 65 1 (.slice a3 (i + 1) c3) (i + 1) (intC (refsN (s.ar.slots.length + nds.length) (i + 1))), rowP 2 1 (.slice a9 (i + 1) c9) (i + 1) (intC (upK n b (i + 1) fs)), rowP 3 1 (.slice (some pa1) (partK n b) pc) (partK n b) (intsC (partsN n b))] ++ (wdL c (ldW s (nds ++ upN n b (i + 1) row fs)) ++ Z))) := Lib.hid (by
            rw [refsN_snoc, HRV.out, HN.out.2.1, intC_snoc, intC_snoc]
            exact H9)
          clear H9 BHH4
          go_wp2_with fail
          go_meet
          exact ⟨a3, c3, a9, c9, rfl, rfl, HX⟩
        · go_simp
          have H9 := AHH1.out.allocF 2 #[.int .i64 fk]
          generalize x2.heap.size = bk at H9 hK9 ⊢
          generalize x2.alloc (.cells #[.int .i64 fk] 2) = x8 at H9 hK9 ⊢
          have H9 : Heap w0 x8 ([blkP bk 2 #[.int .i64 fk], blkP bo 65 #[.int .i64 rv], rowP 65 1 (.slice ao i co) i (intC (refsN (s.ar.slots.length + nds.length) i)), rowP 2 1 (.slice ak i ck) i (intC (upK n b i fs)), rowP 3 1 (.slice (some pa1) (partK n b) pc) (partK n b) (intsC (partsN n b))] ++ (wdL c (ldW s (nds ++ upN n b (i + 1) row fs)) ++ Z)) := H9
          have CHH2 := Lib.hid H9
          clear H9 AHH1
          refine hK9.out _ _ (fun _ => ⟨_, CHH2⟩) ?_
          clear hK9 K9
          try simp only [Act.put, List.getElem_toArray, List.getElem_cons_zero, List.getElem_cons_succ, List.setIfInBounds_toArray, List.set_cons_zero, List.set_cons_succ]
          refine AnyK.one (i := 3) (by kernel_rfl) rfl (fun K9 hK9 => ?_)
          refine step_append_typed _ (by rfl) (.tmp 42) (.tmp 44) 108 (by rfl) 65 i0 (.int .i64 0) 1 8 Try.underlying108 I0.out.1 I0.out.2.1 I0.out.2.2.1 I0.out.2.2.2 rfl (by decide) (.slice ao i co) i (intC (refsN (s.ar.slots.length + nds.length) i)) (by simp [Act.eval]) (CHH2.out.row 2 rfl) (.slice (some ⟨bo, 0, none⟩) 1 1) 1 [.int .i64 rv] (by simp [Act.eval]) (RdV.block (cs := #[.int .i64 rv]) (t := 65) (CHH2.out.blk 1 rfl) rfl (by decide)) (by simp [Value.oneCell']) HL.out.1 HL.out.2 ?_
          intro a3 c3 w3 q3 grow3 hat3
          have H9 := CHH2.out.growRow 2 rfl (Fr.refl _ _) q3 grow3 (fun g hg => (hat3 g hg).resolve_left (fun h => absurd h.1 (by decide)))
          clear q3 grow3 hat3
          have H9 : Heap w0 w3 ([blkP bk 2 #[.int .i64 fk], blkP bo 65 #[.int .i64 rv], rowP 65 1 (.slice a3 (i + 1) c3) (i + 1) (intC (refsN (s.ar.slots.length + nds.length) i) ++ [.int .i64 rv]), rowP 2 1 (.slice ak i ck) i (intC (upK n b i fs)), rowP 3 1 (.slice (some pa1) (partK n b) pc) (partK n b) (intsC (partsN n b))] ++ (wdL c (ldW s (nds ++ upN n b (i + 1) row fs)) ++ Z)) := H9
          have CHH3 := Lib.hid H9
          clear H9 CHH2
          refine hK9.out _ _ (fun _ => ⟨_, CHH3⟩) ?_
          clear hK9 K9
          try simp only [Act.put, List.getElem_toArray, List.getElem_cons_zero, List.getElem_cons_succ, List.setIfInBounds_toArray, List.set_cons_zero, List.set_cons_succ]
          refine AnyK.one (i := 9) (by kernel_rfl) rfl (fun K9 hK9 => ?_)
          refine step_append_typed _ (by rfl) (.tmp 46) (.tmp 50) 22 (by rfl) 2 j0 (.int .i64 0) 1 8 Try.underlying22 J0.out.1 J0.out.2.1 J0.out.2.2.1 J0.out.2.2.2 rfl (by decide) (.slice ak i ck) i (intC (upK n b i fs)) (by simp [Act.eval]) (CHH3.out.row 3 rfl) (.slice (some ⟨bk, 0, none⟩) 1 1) 1 [.int .i64 fk] (by simp [Act.eval]) (RdV.block (cs := #[.int .i64 fk]) (t := 2) (CHH3.out.blk 0 rfl) rfl (by decide)) (by simp [Value.oneCell']) HL.out.1 HL.out.2 ?_
          intro a9 c9 w9 q9 grow9 hat9
          have H9 := CHH3.out.growRow 3 rfl (Fr.refl _ _) q9 grow9 (fun g hg => (hat9 g hg).resolve_left (fun h => absurd h.1 (by decide)))
          clear q9 grow9 hat9
          have H9 : Heap w0 w9 ([blkP bk 2 #[.int .i64 fk], blkP bo 65 #[.int .i64 rv], rowP 65 1 (.slice a3 (i + 1) c3) (i + 1) (intC (refsN (s.ar.slots.length + nds.length) i) ++ [.int .i64 rv]), rowP 2 1 (.slice a9 (i + 1) c9) (i + 1) (intC (upK n b i fs) ++ [.int .i64 fk]), rowP 3 1 (.slice (some pa1) (partK n b) pc) (partK n b) (intsC (partsN n b))] ++ (wdL c (ldW s (nds ++ upN n b (i + 1) row fs)) ++ Z)) := H9
          have CHH4 := Lib.hid H9
          clear H9 CHH3
          refine hK9.out _ _ (fun _ => ⟨_, CHH4⟩) ?_
          clear hK9 K9
          try simp only [Act.put, List.getElem_toArray, List.getElem_cons_zero, List.getElem_cons_succ, List.setIfInBounds_toArray, List.set_cons_zero, List.set_cons_succ]
          refine AnyK.phase (S' := fun _ => True) (ks' := []) (by kernel_rfl) ?_
          refine AnyK.take (i := 10) (v := ?_) rfl (by kernel_rfl) (by kernel_rfl) (by kernel_rfl) (by kernel_rfl) (fun _ _ _ h => h) (Or.inl ⟨by rfl, ?_⟩) (by exact trivial) ?_
          rotate_left
          focus
            intro w9 hSw
            try dsimp only at hSw
            go_simp
            try with_reducible rfl
          try simp only [Act.put, List.getElem_toArray, List.getElem_cons_zero, List.getElem_cons_succ, List.setIfInBounds_toArray, List.set_cons_zero, List.set_cons_succ]
          refine AnyK.take (i := 11) (v := ?_) rfl (by kernel_rfl) (by kernel_rfl) (by kernel_rfl) (by kernel_rfl) (fun _ _ _ h => h) (Or.inl ⟨by rfl, ?_⟩) (by exact trivial) ?_
          rotate_left
          focus
            intro w9 hSw
            try dsimp only at hSw
            go_simp
            try with_reducible rfl
          try simp only [Act.put, List.getElem_toArray, List.getElem_cons_zero, List.getElem_cons_succ, List.setIfInBounds_toArray, List.set_cons_zero, List.set_cons_succ]
          have H9 := CHH4.out
          have H9 := H9.tailP.tailP
          refine AnyK.done (by kernel_rfl) ?_ _
          refine NoPanic.normal ?_
          have HX : Hid (Heap w0 _ ([rowP 65 1 (.slice a3 (i + 1) c3) (i + 1) (intC (refsN (s.ar.slots.length + nds.length) (i + 1))), rowP 2 1 (.slice a9 (i + 1) c9) (i + 1) (intC (upK n b (i + 1) fs)), rowP 3 1 (.slice (some pa1) (partK n b) pc) (partK n b) (intsC (partsN n b))] ++ (wdL c (ldW s (nds ++ upN n b (i + 1) row fs)) ++ Z))) := Lib.hid (by
            rw [refsN_snoc, HRV.out, HN.out.2.1, intC_snoc, intC_snoc]
            exact H9)
          clear H9 CHH4
          go_wp2_with fail
          go_meet
          exact ⟨a3, c3, a9, c9, rfl, rfl, HX⟩
      · go_simp
        have H9 := HZ.out.allocF 2 #[.int .i64 fk]
        generalize z0.heap.size = bk at H9 hK9 ⊢
        generalize z0.alloc (.cells #[.int .i64 fk] 2) = x8 at H9 hK9 ⊢
        have H9 : Heap w0 x8 ([blkP bk 2 #[.int .i64 fk], rowP 65 1 (.slice ao i co) i (intC (refsN (s.ar.slots.length + nds.length) i)), rowP 2 1 (.slice ak i ck) i (intC (upK n b i fs)), rowP 3 1 (.slice (some pa1) (partK n b) pc) (partK n b) (intsC (partsN n b))] ++ (wdL c (ldW s (nds ++ upN n b (i + 1) row fs)) ++ Z)) := H9
        have DHH1 := Lib.hid H9
        clear H9 HZ
        refine hK9.out _ _ (fun _ => ⟨_, DHH1⟩) ?_
        clear hK9 K9
        try simp only [Act.put, List.getElem_toArray, List.getElem_cons_zero, List.getElem_cons_succ, List.setIfInBounds_toArray, List.set_cons_zero, List.set_cons_succ]
        refine AnyK.one (i := 2) (by kernel_rfl) rfl (fun K9 hK9 => ?_)
        go_simp
        have H9 := DHH1.out.allocF 65 #[.int .i64 rv]
        generalize x8.heap.size = bo at H9 hK9 ⊢
        generalize x8.alloc (.cells #[.int .i64 rv] 65) = x2 at H9 hK9 ⊢
        have H9 : Heap w0 x2 ([blkP bo 65 #[.int .i64 rv], blkP bk 2 #[.int .i64 fk], rowP 65 1 (.slice ao i co) i (intC (refsN (s.ar.slots.length + nds.length) i)), rowP 2 1 (.slice ak i ck) i (intC (upK n b i fs)), rowP 3 1 (.slice (some pa1) (partK n b) pc) (partK n b) (intsC (partsN n b))] ++ (wdL c (ldW s (nds ++ upN n b (i + 1) row fs)) ++ Z)) := H9
        have DHH2 := Lib.hid H9
        clear H9 DHH1
        refine hK9.out _ _ (fun _ => ⟨_, DHH2⟩) ?_
        clear hK9 K9
        try simp only [Act.put, List.getElem_toArray, List.getElem_cons_zero, List.getElem_cons_succ, List.setIfInBounds_toArray, List.set_cons_zero, List.set_cons_succ]
        refine AnyK.one (i := 3) (by kernel_rfl) rfl (fun K9 hK9 => ?_)
        refine step_append_typed _ (by rfl) (.tmp 42) (.tmp 44) 108 (by rfl) 65 i0 (.int .i64 0) 1 8 Try.underlying108 I0.out.1 I0.out.2.1 I0.out.2.2.1 I0.out.2.2.2 rfl (by decide) (.slice ao i co) i (intC (refsN (s.ar.slots.length + nds.length) i)) (by simp [Act.eval]) (DHH2.out.row 2 rfl) (.slice (some ⟨bo, 0, none⟩) 1 1) 1 [.int .i64 rv] (by simp [Act.eval]) (RdV.block (cs := #[.int .i64 rv]) (t := 65) (DHH2.out.blk 0 rfl) rfl (by decide)) (by simp [Value.oneCell']) HL.out.1 HL.out.2 ?_
        intro a3 c3 w3 q3 grow3 hat3
        have H9 := DHH2.out.growRow 2 rfl (Fr.refl _ _) q3 grow3 (fun g hg => (hat3 g hg).resolve_left (fun h => absurd h.1 (by decide)))
        clear q3 grow3 hat3
        have H9 : Heap w0 w3 ([blkP bo 65 #[.int .i64 rv], blkP bk 2 #[.int .i64 fk], rowP 65 1 (.slice a3 (i + 1) c3) (i + 1) (intC (refsN (s.ar.slots.length + nds.length) i) ++ [.int .i64 rv]), rowP 2 1 (.slice ak i ck) i (intC (upK n b i fs)), rowP 3 1 (.slice (some pa1) (partK n b) pc) (partK n b) (intsC (partsN n b))] ++ (wdL c (ldW s (nds ++ upN n b (i + 1) row fs)) ++ Z)) := H9
        have DHH3 := Lib.hid H9
        clear H9 DHH2
        refine hK9.out _ _ (fun _ => ⟨_, DHH3⟩) ?_
        clear hK9 K9
        try simp only [Act.put, List.getElem_toArray, List.getElem_cons_zero, List.getElem_cons_succ, List.setIfInBounds_toArray, List.set_cons_zero, List.set_cons_succ]
        refine AnyK.one (i := 9) (by kernel_rfl) rfl (fun K9 hK9 => ?_)
        refine step_append_typed _ (by rfl) (.tmp 46) (.tmp 50) 22 (by rfl) 2 j0 (.int .i64 0) 1 8 Try.underlying22 J0.out.1 J0.out.2.1 J0.out.2.2.1 J0.out.2.2.2 rfl (by decide) (.slice ak i ck) i (intC (upK n b i fs)) (by simp [Act.eval]) (DHH3.out.row 3 rfl) (.slice (some ⟨bk, 0, none⟩) 1 1) 1 [.int .i64 fk] (by simp [Act.eval]) (RdV.block (cs := #[.int .i64 fk]) (t := 2) (DHH3.out.blk 1 rfl) rfl (by decide)) (by simp [Value.oneCell']) HL.out.1 HL.out.2 ?_
        intro a9 c9 w9 q9 grow9 hat9
        have H9 := DHH3.out.growRow 3 rfl (Fr.refl _ _) q9 grow9 (fun g hg => (hat9 g hg).resolve_left (fun h => absurd h.1 (by decide)))
        clear q9 grow9 hat9
        have H9 : Heap w0 w9 ([blkP bo 65 #[.int .i64 rv], blkP bk 2 #[.int .i64 fk], rowP 65 1 (.slice a3 (i + 1) c3) (i + 1) (intC (refsN (s.ar.slots.length + nds.length) i) ++ [.int .i64 rv]), rowP 2 1 (.slice a9 (i + 1) c9) (i + 1) (intC (upK n b i fs) ++ [.int .i64 fk]), rowP 3 1 (.slice (some pa1) (partK n b) pc) (partK n b) (intsC (partsN n b))] ++ (wdL c (ldW s (nds ++ upN n b (i + 1) row fs)) ++ Z)) := H9
        have DHH4 := Lib.hid H9
        clear H9 DHH3
        refine hK9.out _ _ (fun _ => ⟨_, DHH4⟩) ?_
        clear hK9 K9
        try simp only [Act.put, List.getElem_toArray, List.getElem_cons_zero, List.getElem_cons_succ, List.setIfInBounds_toArray, List.set_cons_zero, List.set_cons_succ]
        refine AnyK.phase (S' := fun _ => True) (ks' := []) (by kernel_rfl) ?_
        refine AnyK.take (i := 10) (v := ?_) rfl (by kernel_rfl) (by kernel_rfl) (by kernel_rfl) (by kernel_rfl) (fun _ _ _ h => h) (Or.inl ⟨by rfl, ?_⟩) (by exact trivial) ?_
        rotate_left
        focus
          intro w9 hSw
          try dsimp only at hSw
          go_simp
          try with_reducible rfl
        try simp only [Act.put, List.getElem_toArray, List.getElem_cons_zero, List.getElem_cons_succ, List.setIfInBounds_toArray, List.set_cons_zero, List.set_cons_succ]
        refine AnyK.take (i := 11) (v := ?_) rfl (by kernel_rfl) (by kernel_rfl) (by kernel_rfl) (by kernel_rfl) (fun _ _ _ h => h) (Or.inl ⟨by rfl, ?_⟩) (by exact trivial) ?_
        rotate_left
        focus
          intro w9 hSw
          try dsimp only at hSw
          go_simp
          try with_reducible rfl
        try simp only [Act.put, List.getElem_toArray, List.getElem_cons_zero, List.getElem_cons_succ, List.setIfInBounds_toArray, List.set_cons_zero, List.set_cons_succ]
        have H9 := DHH4.out
        have H9 := H9.tailP.tailP
        refine AnyK.done (by kernel_rfl) ?_ _
        refine NoPanic.normal ?_
        have HX : Hid (Heap w0 _ ([rowP 65 1 (.slice a3 (i + 1) c3) (i + 1) (intC (refsN (s.ar.slots.length + nds.length) (i + 1))), rowP 2 1 (.slice a9 (i + 1) c9) (i + 1) (intC (upK n b (i + 1) fs)), rowP 3 1 (.slice (some pa1) (partK n b) pc) (partK n b) (intsC (partsN n b))] ++ (wdL c (ldW s (nds ++ upN n b (i + 1) row fs)) ++ Z))) := Lib.hid (by
          rw [refsN_snoc, HRV.out, HN.out.2.1, intC_snoc, intC_snoc]
          exact H9)
        clear H9 DHH4
        go_wp2_with fail
        go_meet
        exact ⟨a3, c3, a9, c9, rfl, rfl, HX⟩
    case rest =>
    obtain ⟨ao2, co2, ak2, ck2, rfl, rfl, HH7⟩ := hcut
    clear HH6 HF2
    rename World => w7
    rename ∀ (a : Act) (w : World), Code.wp Try.prog _ _ a w → _ => hK8
    refine hK8 _ _ ?_
    clear hK8
    go_quiet (fail)
    rw [HE.out.2.2.1, HE.out.2.2.2]
    have HX : Hid (∀ nq, Heap w0 (w7.drewN nq) ([rowP 65 1 (.slice ao2 (i + 1) co2) (i + 1) (intC (refsN (s.ar.slots.length + nds.length) (i + 1))), rowP 2 1 (.slice ak2 (i + 1) ck2) (i + 1) (intC (upK n b (i + 1) fs)), rowP 3 1 (.slice (some pa1) (partK n b) pc) (partK n b) (intsC (partsN n b))] ++ (wdL c (ldW s (nds ++ upN n b (i + 1) row fs)) ++ Z))) := Lib.hid (fun nq => HH7.out.drewN nq)
    have HRX : Hid ((∀ z q l, Heap w0 z (l ++ (wdQ c s q ++ Z)) → RdV z (.slice vr (n - sumP n b (i + 1)) (c1 - k)) (n - sumP n b (i + 1)) 1 (intC (row.drop (sumP n b (i + 1)))) ∧ RdV z (.slice vf (n - sumP n b (i + 1)) (c2 - k)) (n - sumP n b (i + 1)) 1 (intC (fs.drop (sumP n b (i + 1)))))) := Lib.hid (by
      rw [HN.out.2.2.1, show n - (m + k) = lm - k by have := HM.out.2.2.1; omega]
      exact fun z q l hz => (HV.out z q l hz).2)
    have HSX : Hid (n - sumP n b (i + 1) = lm - k) := Lib.hid (by rw [HN.out.2.2.1]; have := HM.out.2.2.1; omega)
    clear HH7
    go_wp2_with fail
    rw [← HSX.out]
    exact ⟨⟨i + 1, vr, c1 - k, vf, c2 - k, ao2, co2, ak2, ck2, by go_num, by omega, rfl, rfl, rfl, rfl, HRX, Lib.hid (HX.out _)⟩, by simp [intOf]; omega⟩
  · obtain rfl : i = partK n b := by omega
    go_wp2_with fail
    refine bodyPost_ret (v := .tuple #[.slice ao (partK n b) co, .slice ak (partK n b) ck]) (by simp [results, Try.results58, go_sem]) rfl ?_
    have HX := HH.out
    unfold upN upK at HX
    rw [List.take_of_length_le (by rw [partsN_len]; exact Nat.le_refl _)] at HX
    exact ⟨ao, co, ak, ck, rfl, (Heap.swapF (B := [rowP 65 1 (.slice ao (partK n b) co) (partK n b) (intC (refsN (s.ar.slots.length + nds.length) (partK n b))), rowP 2 1 (.slice ak (partK n b) ck) (partK n b) (intC (upKeys (partsN n b) fs))]) (Heap.mid (l := [rowP 65 1 (.slice ao (partK n b) co) (partK n b) (intC (refsN (s.ar.slots.length + nds.length) (partK n b))), rowP 2 1 (.slice ak (partK n b) ck) (partK n b) (intC (upKeys (partsN n b) fs))]) (m := [rowP 3 1 (.slice pa (partK n b) pc) (partK n b) (intsC (partsN n b))]) HX)).swapF⟩
end Go.Proofs.Ytkbnoceekileiaa
