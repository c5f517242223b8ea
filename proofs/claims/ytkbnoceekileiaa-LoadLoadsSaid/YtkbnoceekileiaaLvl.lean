/- Shape.Size, Few, levels: their contracts. No condition but the bounds of size. -/
import Derived.Test.YtkbnoceekileiaaAll
namespace Go.Proofs.Ytkbnoceekileiaa
open Go Go.RowKit
set_option linter.unusedVariables false
set_option linter.unusedSimpArgs false
set_option maxRecDepth 100000
def sizeSh (s : Sh) : Nat := if s.lf = true then s.ps.length else s.kids.length
theorem Size_calls {w : World} {S : Nat → Prop} {s : Sh} {v : Sv} (h : ShIn w S s v) : Calls Try.prog 72 #[shV s v] w fun e w' => e = .returned (.int .i64 (sizeSh s : Nat)) ∧ Fr nob w w' := by
  obtain ⟨ap, cp, ak, ck, ac, cc, rfl⟩ := h.form
  obtain ⟨lf, tg, ps, ks, kids⟩ := s
  have h' := h
  unfold ShIn at h'
  obtain ⟨r1, r2, cs, hcl, r3, r4⟩ := h'
  dsimp only [Sh.ps, Sh.ks, Sh.kids] at r1 r2 r3
  have hm1 := r3.1.short
  have hm2 := r1.1.short
  have hm3 := r2.1.short
  unfold maxLen at hm1 hm2 hm3
  have H1 := (Heap.start w).allocF 33 #[.bool lf, .bool tg, .slice ap ps.length cp, .slice ak ks.length ck, .slice ac kids.length cc]
  obtain ⟨b1, hb1⟩ : ∃ b, w.heap.size = b := ⟨_, rfl⟩
  obtain ⟨w1, hw1⟩ : ∃ z, w.alloc (.cells #[.bool lf, .bool tg, .slice ap ps.length cp, .slice ak ks.length ck, .slice ac kids.length cc] 33) = z := ⟨_, rfl⟩
  rw [hb1, hw1] at H1
  have B1 := H1.blk 0 rfl
  have x0 := B1.cell 0
  have x1 := B1.cell 1
  have x2 := B1.cell 2
  have x3 := B1.cell 3
  have x4 := B1.cell 4
  have HH := Lib.hid H1
  have HWW := Lib.hid (And.intro hb1 hw1)
  clear h r1 r2 r3 r4 H1 hb1 hw1 B1 hm1 hm2 hm3
  go_enter Try.func72, Try.ntmps72
  unfold shV
  dsimp only [Sh.lf, Sh.tg, Sh.ps, Sh.ks, Sh.kids]
  go_upto_region 1 with fail
  rw [HWW.out.1, HWW.out.2]
  clear HWW
  cases lf with
  | true =>
    go_wp2_with fail
    go_ret
    exact ⟨rfl, HH.out.fr⟩
  | false =>
    go_wp2_with fail
    go_ret
    exact ⟨rfl, HH.out.fr⟩
def fewSh (s : Sh) (a : Int) (root : Bool) : Bool := if root = true ∧ s.lf = true then false else if root = true then decide (s.kids.length < 2) else decide ((sizeSh s : Int) < a)
theorem Few_calls {w : World} {S : Nat → Prop} {s : Sh} {v : Sv} (h : ShIn w S s v) (a : Int) (root : Bool) : Calls Try.prog 71 #[shV s v, .int .i64 a, .bool root] w fun e w' => e = .returned (.bool (fewSh s a root)) ∧ Fr nob w w' := by
  have CS := Lib.hid (fun z (hz : Fr nob w z) => Size_calls (h.fr0 hz))
  obtain ⟨ap, cp, ak, ck, ac, cc, rfl⟩ := h.form
  obtain ⟨lf, tg, ps, ks, kids⟩ := s
  have h' := h
  unfold ShIn at h'
  obtain ⟨r1, r2, cs, hcl, r3, r4⟩ := h'
  dsimp only [Sh.ps, Sh.ks, Sh.kids] at r1 r2 r3
  have hm1 := r3.1.short
  have hm2 := r1.1.short
  have hm3 := r2.1.short
  unfold maxLen at hm1 hm2 hm3
  have H1 := (Heap.start w).allocF 33 #[.bool lf, .bool tg, .slice ap ps.length cp, .slice ak ks.length ck, .slice ac kids.length cc]
  obtain ⟨b1, hb1⟩ : ∃ b, w.heap.size = b := ⟨_, rfl⟩
  obtain ⟨w1, hw1⟩ : ∃ z, w.alloc (.cells #[.bool lf, .bool tg, .slice ap ps.length cp, .slice ak ks.length ck, .slice ac kids.length cc] 33) = z := ⟨_, rfl⟩
  rw [hb1, hw1] at H1
  have B1 := H1.blk 0 rfl
  have x0 := B1.cell 0
  have x1 := B1.cell 1
  have x2 := B1.cell 2
  have x3 := B1.cell 3
  have x4 := B1.cell 4
  have HH := Lib.hid H1
  have HWW := Lib.hid (And.intro hb1 hw1)
  clear h r1 r2 r3 r4 H1 hb1 hw1 B1 hm1 hm2 hm3
  unfold shV at CS
  dsimp only [Sh.lf, Sh.tg, Sh.ps, Sh.ks, Sh.kids] at CS
  go_enter Try.func71, Try.ntmps71
  unfold shV
  dsimp only [Sh.lf, Sh.tg, Sh.ps, Sh.ks, Sh.kids]
  go_upto_region 1 with fail
  rw [HWW.out.1, HWW.out.2]
  clear HWW
  cases root with
  | false =>
    go_wp2_with fail
    refine (CS.out _ HH.out.fr).mono ?_
    rintro e w2 ⟨rfl, F2⟩
    have HX := Lib.hid (HH.out.go F2)
    obtain ⟨sz, hsz⟩ : ∃ x, sizeSh (.mk lf tg ps ks kids) = x := ⟨_, rfl⟩
    have HS := Lib.hid hsz
    rw [hsz]
    clear CS hsz F2 HH
    go_wp2_with fail
    go_ret
    refine ⟨?_, HX.out.fr⟩
    unfold fewSh
    rw [HS.out]
    simp
  | true =>
    clear CS
    cases lf with
    | true =>
      go_wp2_with fail
      go_ret
      exact ⟨rfl, HH.out.fr⟩
    | false =>
      go_wp2_with fail
      go_ret
      refine ⟨?_, HH.out.fr⟩
      unfold fewSh
      simp [Sh.lf, Sh.kids]
      exact decide_eq_decide.2 (by omega)
mutual
/-- How many nodes that are not tagged lie above each leaf; whether as many above all. -/
def levP : Sh → Nat × Bool
  | .mk lf tg _ _ kids => match levsP kids true 0 with
    | some n => (if lf = false ∧ tg = false then n + 1 else n, true)
    | none => (0, false)
def levsP : List Sh → Bool → Nat → Option Nat
  | [], _, n => some n
  | s :: l, first, n => if (levP s).2 = false ∨ (first = false ∧ (levP s).1 ≠ n) then none else levsP l false (levP s).1
end
theorem levP_mk (lf tg : Bool) (ps : List (Int × Int)) (ks : List Int) (kids : List Sh) : levP (.mk lf tg ps ks kids) = match levsP kids true 0 with
    | some n => (if lf = false ∧ tg = false then n + 1 else n, true)
    | none => (0, false) := by rw [levP]
theorem levsP_cons (s : Sh) (l : List Sh) (first : Bool) (n : Nat) : levsP (s :: l) first n = if (levP s).2 = false ∨ (first = false ∧ (levP s).1 ≠ n) then none else levsP l false (levP s).1 := by rw [levsP]
mutual
theorem levP_le : ∀ (s : Sh), (levP s).1 ≤ dpSh s + 1
  | .mk lf tg ps ks kids => by
    have h := levsP_le kids true 0
    rw [levP_mk, dpSh]
    cases hq : levsP kids true 0 with
    | none => simp
    | some n =>
      have := h n hq
      dsimp only
      split <;> omega
theorem levsP_le : ∀ (l : List Sh) (first : Bool) (n m : Nat), levsP l first n = some m → m ≤ max (dpShs l) n
  | [], first, n, m, h => by
    rw [levsP] at h
    simp at h
    subst h
    exact Nat.le_max_right _ _
  | s :: l, first, n, m, h => by
    rw [levsP_cons] at h
    split at h
    · simp at h
    · have h1 := levP_le s
      have h2 := levsP_le l false _ m h
      rw [dpShs]
      omega
end
def levPost (w : World) (s : Sh) (e : Ending) (w' : World) : Prop := e = .returned (.tuple #[.int .i64 ((levP s).1 : Nat), .bool (levP s).2]) ∧ Fr nob w w'
set_option maxHeartbeats 200000000 in
theorem levels_step (d : Nat) (hd : d ≤ 1000) (IH : ∀ e, d = e + 1 → ∀ (w : World) (S : Nat → Prop) (s : Sh) (v : Sv) (_ : ShIn w S s v) (_ : dpSh s ≤ e), Calls Try.prog 46 #[shV s v] w (levPost w s))
    (w : World) (S : Nat → Prop) (s : Sh) (v : Sv) (h : ShIn w S s v) (hdp : dpSh s ≤ d) : Calls Try.prog 46 #[shV s v] w (levPost w s) := by
  obtain ⟨ap, cp, ak, ck, ac, cc, rfl⟩ := h.form
  obtain ⟨lf, tg, ps, ks, kids⟩ := s
  have h' := h
  unfold ShIn at h'
  obtain ⟨r1, r2, cs, hcl, r3, r4⟩ := h'
  dsimp only [Sh.ps, Sh.ks, Sh.kids] at r1 r2 r3
  have hm1 := r3.1.short
  have hm2 := r1.1.short
  have hm3 := r2.1.short
  unfold maxLen at hm1 hm2 hm3
  have HIH := Lib.hid @IH
  have HR := Lib.hid (And.intro r3 (And.intro r4 (And.intro hcl hdp)))
  have H1 := (Heap.start w).allocF 33 #[.bool lf, .bool tg, .slice ap ps.length cp, .slice ak ks.length ck, .slice ac kids.length cc]
  obtain ⟨b1, hb1⟩ : ∃ b, w.heap.size = b := ⟨_, rfl⟩
  obtain ⟨w1, hw1⟩ : ∃ z, w.alloc (.cells #[.bool lf, .bool tg, .slice ap ps.length cp, .slice ak ks.length ck, .slice ac kids.length cc] 33) = z := ⟨_, rfl⟩
  rw [hb1, hw1] at H1
  have B1 := H1.blk 0 rfl
  have x0 := B1.cell 0
  have x1 := B1.cell 1
  have x2 := B1.cell 2
  have x3 := B1.cell 3
  have x4 := B1.cell 4
  have HH := Lib.hid H1
  have HWW := Lib.hid (And.intro hb1 hw1)
  clear h r1 r2 r3 r4 hcl IH H1 hb1 hw1 B1 hm2 hm3 hdp
  go_enter Try.func46, Try.ntmps46
  unfold shV
  dsimp only [Sh.lf, Sh.tg, Sh.ps, Sh.ks, Sh.kids]
  go_upto_region 1 with fail
  rw [HWW.out.1, HWW.out.2]
  clear HWW
  go_wp2_with fail
  clear x0 x1 x2 x3 x4
  go_loopw [4, 12] (fun s4 q wr => ∃ (j n : Nat), q = .int .i64 (j : Nat) ∧ j ≤ kids.length ∧ s4 = .int .i64 (n : Nat) ∧ n ≤ 2000 ∧ Hid (levsP (kids.drop j) (decide (j = 0)) n = levsP kids true 0 ∧ Heap w wr [blkP b1 33 #[.bool lf, .bool tg, .slice ap ps.length cp, .slice ak ks.length ck, .slice ac kids.length cc]])) (fun _ q _ => kids.length - (intOf q).toNat)
  case atStart => exact ⟨0, 0, rfl, Nat.zero_le _, rfl, by decide, Lib.hid ⟨rfl, HH.out⟩⟩
  case round =>
  clear HH
  obtain ⟨j, n, rfl, hj, rfl, hn, HQ⟩ := hrel
  obtain ⟨hlv, H0⟩ := HQ.out
  have HH := Lib.hid H0
  clear HQ H0
  by_cases hlt : j < kids.length
  · have HLT := Lib.hid hlt
    obtain ⟨kd, hkd⟩ : ∃ x, kids[j]? = some x := ⟨_, List.getElem?_eq_getElem hlt⟩
    obtain ⟨cv, hcv⟩ : ∃ x, cs[j]? = some x := ⟨_, List.getElem?_eq_getElem (by rw [HR.out.2.2.1]; exact hlt)⟩
    have hS0 := ShsIn.get kids cs j kd cv HR.out.2.1 hkd hcv
    obtain ⟨kp1, kp2, kp3, kp4, kp5, kp6, rfl⟩ := hS0.form
    have hzip : (kids.zip cs)[j]? = some (kd, ⟨.slice kp1 kd.ps.length kp2, .slice kp3 kd.ks.length kp4, .slice kp5 kd.kids.length kp6⟩) := by rw [List.getElem?_zip_eq_some]; exact ⟨hkd, hcv⟩
    have R3 := HR.out.1.1.fr HH.out.fr (fun _ _ _ x => x)
    obtain ⟨g1, rfl, _, _⟩ := R3.at (by omega)
    obtain ⟨k0, k1, k2, k3, k4⟩ := R3.five hzip hlt
    dsimp only at k2 k3 k4
    have H4 := HH.out.allocF 33 #[.bool kd.lf, .bool kd.tg, .slice kp1 kd.ps.length kp2, .slice kp3 kd.ks.length kp4, .slice kp5 kd.kids.length kp6]
    obtain ⟨b4, hb4⟩ : ∃ b, wr.heap.size = b := ⟨_, rfl⟩
    obtain ⟨w4, hw4⟩ : ∃ z, wr.alloc (.cells #[.bool kd.lf, .bool kd.tg, .slice kp1 kd.ps.length kp2, .slice kp3 kd.ks.length kp4, .slice kp5 kd.kids.length kp6] 33) = z := ⟨_, rfl⟩
    rw [hb4, hw4] at H4
    have B4 := H4.blk 0 rfl
    have y0 := B4.cell 0
    have y1 := B4.cell 1
    have y2 := B4.cell 2
    have y3 := B4.cell 3
    have y4 := B4.cell 4
    have HS0 := Lib.hid (hS0.fr0 H4.fr)
    have H4' := Lib.hid H4
    have HWW := Lib.hid (And.intro hb4 hw4)
    have HKD := Lib.hid hkd
    clear hkd hcv hS0 hzip R3 H4 B4 HH hb4 hw4
    obtain ⟨e, he, hde⟩ := dpSh_kid HR.out.2.2.2 HKD.out
    have hkl := levP_le kd
    have hdl : kids.drop j = kd :: kids.drop (j + 1) := by
      rw [List.drop_eq_getElem_cons hlt]
      rw [show kids[j] = kd from (List.getElem?_eq_some_iff.1 HKD.out).2]
    rw [hdl, levsP_cons] at hlv
    have CA := Lib.hid (HIH.out e he w4 S kd _ HS0.out hde)
    obtain ⟨km, hkm⟩ : ∃ x, (levP kd).1 = x := ⟨_, rfl⟩
    obtain ⟨kok, hkok⟩ : ∃ x, (levP kd).2 = x := ⟨_, rfl⟩
    have HKM := Lib.hid (And.intro hkm hkok)
    rw [hkm] at hkl
    rw [hkm, hkok] at hlv
    have hk2 : km ≤ 1002 := by omega
    clear he hde hkm hkok hdl hkl hlt
    go_upto_region 5 with fail
    rw [HWW.out.1, HWW.out.2]
    clear HWW k0 k1 k2 k3 k4
    go_wp2_with fail
    refine CA.out.mono ?_
    rintro e5 w5 ⟨rfl, F5⟩
    rw [HKM.out.1, HKM.out.2]
    have HX := Lib.hid (H4'.out.go F5).tailP
    clear CA H4' F5 y0 y1 y2 y3 y4
    by_cases hbad : kok = false ∨ (decide (j = 0) = false ∧ km ≠ n)
    · rw [if_pos hbad] at hlv
      have HLV := Lib.hid (show levP (.mk lf tg ps ks kids) = (0, false) by rw [levP_mk, ← hlv])
      clear hlv
      rcases hbad with h | ⟨h1, h2⟩
      · subst h
        go_wp2_with fail
        refine bodyPost_ret (v := .tuple #[.int .i64 0, .bool false]) (by simp [results, Try.results46, go_sem]) rfl ?_
        exact ⟨by rw [HLV.out]; rfl, HX.out.fr⟩
      · have hj0 : (0 : Int) < (j : Int) := by
          have := of_decide_eq_false h1
          omega
        have hne : ((km : Int) == (n : Int)) = false := beq_eq_false_iff_ne.2 (by omega)
        have hj1 : 0 < j := by omega
        clear h1
        cases kok with
        | false =>
          go_wp2_with fail
          refine bodyPost_ret (v := .tuple #[.int .i64 0, .bool false]) (by simp [results, Try.results46, go_sem]) rfl ?_
          exact ⟨by rw [HLV.out]; rfl, HX.out.fr⟩
        | true =>
          go_wp2_with fail
          refine bodyPost_ret (v := .tuple #[.int .i64 0, .bool false]) (by simp [results, Try.results46, go_sem]) rfl ?_
          exact ⟨by rw [HLV.out]; rfl, HX.out.fr⟩
    · rw [if_neg hbad] at hlv
      have hok : kok = true := by
        cases kok with
        | true => rfl
        | false => exact absurd (.inl rfl) hbad
      subst hok
      have HN : Hid (levsP (kids.drop (j + 1)) (decide (j + 1 = 0)) km = levsP kids true 0) := Lib.hid (by
        rw [show decide (j + 1 = 0) = false from rfl]
        exact hlv)
      have hcase : j = 0 ∨ (0 < j ∧ km = n) := by
        by_cases h0 : j = 0
        · exact .inl h0
        · right
          refine ⟨by omega, ?_⟩
          by_cases h1 : km = n
          · exact h1
          · exact absurd (.inr ⟨by simp [h0], h1⟩) hbad
      clear hbad hlv
      rcases hcase with rfl | ⟨h0, rfl⟩
      · go_wp2_with fail
        exact ⟨⟨0 + 1, km, by go_num, by have := HLT.out; omega, rfl, by omega, Lib.hid ⟨HN.out, HX.out⟩⟩, by have := HLT.out; simp [intOf]; omega⟩
      · have h0i : (0 : Int) < (j : Int) := by omega
        go_wp2_with fail
        exact ⟨⟨j + 1, km, by go_num, by have := HLT.out; omega, rfl, by omega, Lib.hid ⟨HN.out, HX.out⟩⟩, by have := HLT.out; simp [intOf]; omega⟩
  · obtain rfl : j = kids.length := by omega
    rw [List.drop_length, levsP] at hlv
    have HLV := Lib.hid (show levP (.mk lf tg ps ks kids) = (if lf = false ∧ tg = false then n + 1 else n, true) by rw [levP_mk, ← hlv])
    have X1 := HH.out.blk 0 (b := b1) (t := 33) (c := #[.bool lf, .bool tg, .slice ap ps.length cp, .slice ak ks.length ck, .slice ac kids.length cc]) rfl
    have x0 := X1.cell 0
    have x1 := X1.cell 1
    clear hlv X1
    cases lf with
    | true =>
      go_wp2_with fail
      refine bodyPost_ret (v := .tuple #[.int .i64 (n : Nat), .bool true]) (by simp [results, Try.results46, go_sem]) rfl ?_
      exact ⟨by rw [HLV.out]; rfl, HH.out.fr⟩
    | false =>
      cases tg with
      | true =>
        go_wp2_with fail
        refine bodyPost_ret (v := .tuple #[.int .i64 (n : Nat), .bool true]) (by simp [results, Try.results46, go_sem]) rfl ?_
        exact ⟨by rw [HLV.out]; rfl, HH.out.fr⟩
      | false =>
        go_wp2_with fail
        refine bodyPost_ret (v := .tuple #[.int .i64 ((n : Int) + 1), .bool true]) (by simp [results, Try.results46, go_sem]) rfl ?_
        exact ⟨by rw [HLV.out]; rfl, HH.out.fr⟩
theorem levels_h : ∀ (d : Nat), d ≤ 1000 → ∀ (w : World) (S : Nat → Prop) (s : Sh) (v : Sv) (_ : ShIn w S s v) (_ : dpSh s ≤ d), Calls Try.prog 46 #[shV s v] w (levPost w s)
  | 0, hd, w, S, s, v, h, hdp => levels_step 0 hd (fun e he => by omega) w S s v h hdp
  | d + 1, hd, w, S, s, v, h, hdp => levels_step (d + 1) hd (fun e he => by
      obtain rfl : d = e := by omega
      exact levels_h d (by omega)) w S s v h hdp
end Go.Proofs.Ytkbnoceekileiaa
