/- boscagelaw11.ways, Shape.Wrongs, Shape.Firm: their contracts. No condition but the bounds of size. -/
import Derived.Test.YtkbnoceekileiaaPlc
import Derived.Test.YtkbnoceekileiaaMny
namespace Go.Proofs.Ytkbnoceekileiaa
open Go Go.RowKit
set_option linter.unusedVariables false
set_option linter.unusedSimpArgs false
set_option maxRecDepth 100000
theorem info_ints : (Try.prog.info? 114).map (fun i => (i.zero, i.size, i.bytes)) = some (some (.slice none 0 0), 1, 24) := by kernel_rfl
/-- Is a node tagged, or has it too few entries? -/
def badSh (s : Sh) (a : Int) (root : Bool) : Bool := s.tg || fewSh s a root
mutual
/-- How many ways lead to nodes that are wrong so. -/
def waysN : Sh → Int → Bool → Bool → Bool → Nat
  | .mk lf tg ps ks kids, a, root, tgd, alone => (if tg = tgd ∧ badSh (.mk lf tg ps ks kids) a root = true then 1 else 0) + (if badSh (.mk lf tg ps ks kids) a root = true ∧ alone = true then 0 else waysNs kids a tgd alone)
def waysNs : List Sh → Int → Bool → Bool → Nat
  | [], _, _, _ => 0
  | s :: l, a, tgd, alone => waysN s a false tgd alone + waysNs l a tgd alone
end
theorem waysN_mk (lf tg : Bool) (ps : List (Int × Int)) (ks : List Int) (kids : List Sh) (a : Int) (root tgd alone : Bool) : waysN (.mk lf tg ps ks kids) a root tgd alone = (if tg = tgd ∧ badSh (.mk lf tg ps ks kids) a root = true then 1 else 0) + (if badSh (.mk lf tg ps ks kids) a root = true ∧ alone = true then 0 else waysNs kids a tgd alone) := by rw [waysN]
mutual
theorem waysN_le (a : Int) (tgd alone : Bool) : ∀ (s : Sh) (root : Bool), waysN s a root tgd alone ≤ manySh s
  | .mk lf tg ps ks kids, root => by
    have := waysNs_le a tgd alone kids
    rw [waysN_mk, manySh_mk]
    split <;> split <;> omega
theorem waysNs_le (a : Int) (tgd alone : Bool) : ∀ (l : List Sh), waysNs l a tgd alone ≤ manyShs l
  | [] => by rw [waysNs, manyShs]; omega
  | s :: l => by
    have h1 := waysN_le a tgd alone s false
    have h2 := waysNs_le a tgd alone l
    rw [waysNs, manyShs]
    omega
end
theorem waysNs_append (a : Int) (tgd alone : Bool) : ∀ (x y : List Sh), waysNs (x ++ y) a tgd alone = waysNs x a tgd alone + waysNs y a tgd alone
  | [], y => by simp [waysNs]
  | s :: x, y => by rw [List.cons_append, waysNs, waysNs, waysNs_append a tgd alone x y]; omega
theorem waysNs_next {kids : List Sh} {j : Nat} {s : Sh} (h : kids[j]? = some s) (a : Int) (tgd alone : Bool) : waysNs (kids.take (j + 1)) a tgd alone = waysNs (kids.take j) a tgd alone + waysN s a false tgd alone := by
  rw [List.take_add_one, h]
  show waysNs (kids.take j ++ [s]) a tgd alone = _
  rw [waysNs_append, waysNs, waysNs]
  omega
def AllOne (us : List Value) : Prop := ∀ u ∈ us, u.oneCell' = true
theorem AllOne.app {a b : List Value} (h : AllOne a) (h2 : AllOne b) : AllOne (a ++ b) := fun u hu => by
  rcases List.mem_append.1 hu with h3 | h3
  · exact h u h3
  · exact h2 u h3
def waysPost (w : World) (n : Nat) (e : Ending) (w' : World) : Prop := ∃ a c us, e = .returned (.slice a n c) ∧ AllOne us ∧ Heap w w' [rowP 114 1 (.slice a n c) n us]
set_option maxHeartbeats 200000000 in
theorem ways_step (d : Nat) (IH : ∀ e, d = e + 1 → ∀ (w : World) (S : Nat → Prop) (s : Sh) (v : Sv) (a : Int) (vw : Value) (wy : List Int) (tgd alone : Bool) (_ : ShIn w S s v) (_ : dpSh s ≤ e) (_ : manySh s ≤ 1000000) (_ : RdV w vw wy.length 1 (intC wy)) (_ : wy.length + e ≤ 1000), Calls Try.prog 48 #[shV s v, .int .i64 a, vw, .bool tgd, .bool alone] w (waysPost w (waysN s a (decide (wy.length = 0)) tgd alone)))
    (w : World) (S : Nat → Prop) (s : Sh) (v : Sv) (a : Int) (vw : Value) (wy : List Int) (tgd alone : Bool) (h : ShIn w S s v) (hdp : dpSh s ≤ d) (hmn : manySh s ≤ 1000000) (hwy : RdV w vw wy.length 1 (intC wy)) (hwl : wy.length + d ≤ 1000) : Calls Try.prog 48 #[shV s v, .int .i64 a, vw, .bool tgd, .bool alone] w (waysPost w (waysN s a (decide (wy.length = 0)) tgd alone)) := by
  have CF := Lib.hid (fun z (hz : Fr nob w z) root => Few_calls (h.fr0 hz) a root)
  obtain ⟨ap, cp, ak, ck, ac, cc, rfl⟩ := h.form
  obtain ⟨lf, tg, ps, ks, kids⟩ := s
  have h' := h
  unfold ShIn at h'
  obtain ⟨r1, r2, cs, hcl, r3, r4⟩ := h'
  dsimp only [Sh.ps, Sh.ks, Sh.kids] at r1 r2 r3
  have hm1 := r3.1.short
  have hm2 := r1.1.short
  have hm3 := r2.1.short
  unfold maxLen at hm1 hm2 hm3
  obtain ⟨aw, cw, rfl⟩ := hwy.len
  have HIH := Lib.hid @IH
  have HR := Lib.hid (And.intro r3 (And.intro r4 (And.intro hcl (And.intro hdp hmn))))
  have HWY := Lib.hid hwy
  obtain ⟨nw, hnw⟩ : ∃ n, wy.length = n := ⟨_, rfl⟩
  have HNW := Lib.hid hnw
  rw [hnw] at hwl ⊢
  obtain ⟨N, hN⟩ : ∃ x, waysN (.mk lf tg ps ks kids) a (decide (nw = 0)) tgd alone = x := ⟨_, rfl⟩
  have HNN : Hid (N = (if tg = tgd ∧ badSh (.mk lf tg ps ks kids) a (decide (nw = 0)) = true then 1 else 0) + (if badSh (.mk lf tg ps ks kids) a (decide (nw = 0)) = true ∧ alone = true then 0 else waysNs kids a tgd alone)) := Lib.hid (by rw [← hN, waysN_mk])
  have HNB : Hid (N ≤ 1000000) := Lib.hid (by
    have := waysN_le a tgd alone (.mk lf tg ps ks kids) (decide (nw = 0))
    omega)
  rw [hN]
  have H1 := (Heap.start w).allocF 33 #[.bool lf, .bool tg, .slice ap ps.length cp, .slice ak ks.length ck, .slice ac kids.length cc]
  obtain ⟨b1, hb1⟩ : ∃ b, w.heap.size = b := ⟨_, rfl⟩
  obtain ⟨w1, hw1⟩ : ∃ z, w.alloc (.cells #[.bool lf, .bool tg, .slice ap ps.length cp, .slice ak ks.length ck, .slice ac kids.length cc] 33) = z := ⟨_, rfl⟩
  rw [hb1, hw1] at H1
  have B1 := H1.blk 0 rfl
  have x0 := B1.cell 0
  have x1 := B1.cell 1
  have x2 := B1.cell 2
  have x3 := B1.cell 3
  have x4 := B1.cell 4
  have HH := Lib.hid H1
  have HWW := Lib.hid (And.intro hb1 hw1)
  unfold shV at CF
  dsimp only [Sh.lf, Sh.tg, Sh.ps, Sh.ks, Sh.kids] at CF
  clear h r1 r2 r3 r4 hcl IH H1 hb1 hw1 B1 hm2 hm3 hdp hmn hwy hnw hN
  obtain ⟨i0, hi0, hz0, hz1, hz2⟩ := info_parts info_ints
  have I0 := Lib.hid (And.intro hi0 (And.intro hz0 (And.intro hz1 hz2)))
  obtain ⟨j0, hj0, jz0, jz1, jz2⟩ := info_parts info_int
  have J0 := Lib.hid (And.intro hj0 (And.intro jz0 (And.intro jz1 jz2)))
  clear hi0 hz0 hz1 hz2 hj0 jz0 jz1 jz2
  obtain ⟨few, hfew⟩ : ∃ x, fewSh (.mk lf tg ps ks kids) a (decide (nw = 0)) = x := ⟨_, rfl⟩
  have HFW : Hid (badSh (.mk lf tg ps ks kids) a (decide (nw = 0)) = (tg || few)) := Lib.hid (by unfold badSh; rw [hfew]; rfl)
  have CFX := Lib.hid (CF.out w1 HH.out.fr (decide (nw = 0)))
  rw [hfew] at CFX
  have hroot : ((nw : Int) == 0) = decide (nw = 0) := by
    by_cases h : nw = 0
    · rw [h]; rfl
    · rw [beq_eq_false_iff_ne.2 (by omega), decide_eq_false h]
  clear CF hfew
  go_enter Try.func48, Try.ntmps48
  unfold shV
  dsimp only [Sh.lf, Sh.tg, Sh.ps, Sh.ks, Sh.kids]
  go_upto_region 1 with fail
  rw [HWW.out.1, HWW.out.2]
  clear HWW
  go_upto_region 2 with fail
  go_cut [12] from 15 to 24 (fun s12 wx => s12 = .bool (tg || few) ∧ Hid (Heap w wx ([] ++ [blkP b1 33 #[.bool lf, .bool tg, .slice ap ps.length cp, .slice ak ks.length ck, .slice ac kids.length cc]])))
  case first =>
    cases tg with
    | true =>
      go_wp2_with fail
      go_meet
      exact ⟨rfl, HH⟩
    | false =>
      go_wp2_with fail
      refine CFX.out.mono ?_
      rintro e w2 ⟨rfl, F2⟩
      have HX := Lib.hid (HH.out.go F2)
      clear F2
      go_wp2_with fail
      go_meet
      exact ⟨rfl, HX⟩
  case rest =>
  obtain ⟨rfl, HH⟩ := hcut
  clear x0 x1 x2 x3 x4 CFX hroot
  rename World => w2
  obtain ⟨bb, hbb⟩ : ∃ x, (tg || few) = x := ⟨_, rfl⟩
  have HBB : Hid (badSh (.mk lf tg ps ks kids) a (decide (nw = 0)) = bb) := Lib.hid (by rw [HFW.out]; exact hbb)
  rw [hbb]
  clear hbb HFW
  have X1 := HH.out.blk 0 (b := b1) (t := 33) (c := #[.bool lf, .bool tg, .slice ap ps.length cp, .slice ak ks.length ck, .slice ac kids.length cc]) rfl
  have x1 := X1.cell 1
  clear X1
  go_upto_region 3 with fail
  go_cut [31] from 25 to 31 (fun s31 wx => ∃ q : Bool, s31 = .bool q ∧ wx = w2 ∧ Hid (q = true ↔ (tg = tgd ∧ bb = true)))
  case first =>
    cases tg <;> cases tgd <;> cases bb <;>
    · go_wp2_with fail
      go_meet
      exact ⟨_, rfl, rfl, Lib.hid (by simp)⟩
  case rest =>
  obtain ⟨q, rfl, hwx, HQQ⟩ := hcut
  subst hwx
  clear x1
  rename World => w3
  rename ∀ (a : Act) (w : World), Code.wp Try.prog _ _ a w → _ => hK8
  refine hK8 _ _ ?_
  clear hK8
  go_cut [11] from 32 to 37 (fun s11 wx => ∃ (n0 : Nat) (ao : Option Addr) (co : Nat) (us : List Value), s11 = .slice ao n0 co ∧ n0 ≤ 1 ∧ Hid (n0 = (if tg = tgd ∧ bb = true then 1 else 0) ∧ AllOne us ∧ Heap w wx ([rowP 114 1 (.slice ao n0 co) n0 us] ++ [blkP b1 33 #[.bool lf, .bool tg, .slice ap ps.length cp, .slice ak ks.length ck, .slice ac kids.length cc]])))
  case first =>
    cases q with
    | false =>
      have HZ : Hid (0 = (if tg = tgd ∧ bb = true then 1 else 0)) := Lib.hid (by
        rw [if_neg (fun h => by have := HQQ.out.2 h; simp at this)])
      go_wp2_with fail
      go_meet
      exact ⟨0, none, 0, [], rfl, Nat.zero_le _, Lib.hid ⟨HZ.out, fun u hu => by simp at hu, HH.out.rowNilF 114 1⟩⟩
    | true =>
      have HZ : Hid (1 = (if tg = tgd ∧ bb = true then 1 else 0)) := Lib.hid (by rw [if_pos (HQQ.out.1 rfl)])
      have RW := Lib.hid (by have h9 := HWY.out.fr HH.out.fr (fun _ _ _ x => x); rw [HNW.out] at h9; exact h9)
      have H4 := Lib.hid (HH.out.row0F 3 1)
      have HLW := Lib.hid (show 0 + nw ≤ maxLen ∧ (0 + nw) * 8 ≤ 140737488355328 by unfold maxLen; omega)
      have HL1 := Lib.hid (show 0 + 1 ≤ maxLen ∧ (0 + 1) * 24 ≤ 140737488355328 by unfold maxLen; omega)
      go_wp2_with (at_builtin; refine wpList_append_typed _ rfl _ _ _ (by rfl) 3 j0 (.int .i64 0) 1 8 Try.underlying114 J0.out.1 J0.out.2.1 J0.out.2.2.1 J0.out.2.2.2 rfl (by decide) (.slice (some ⟨w3.heap.size, 0, none⟩) 0 0) 0 [] (by rfl) (QRow.none0 _ _) (.slice aw nw cw) nw (intC wy) (by rfl) (RW.out.fr (S := nob) (by repeat (first | exact Fr.refl _ _ | apply Fr.drew | apply Fr.alloc)) (fun _ _ _ x => x)) (intC_one wy) HLW.out.1 HLW.out.2 ?_)
      intro a6 c6 w6 q6 grow6 hat6
      have G6 := H4.out.appRow 0 (m := nw) rfl (Fr.refl _ _) q6 grow6 (fun g hg => by have h9 := hat6 g hg; simpa using h9)
      have H6 := Lib.hid G6
      clear G6 q6 grow6 hat6 H4 RW HH
      go_wp2_with (at_builtin; refine wpList_append_typed _ rfl _ _ _ (by rfl) 114 i0 (.slice none 0 0) 1 24 Try.underlying96 I0.out.1 I0.out.2.1 I0.out.2.2.1 I0.out.2.2.2 rfl (by decide) (.slice none 0 0) 0 [] (by rfl) (QRow.nil _ _ _) _ 1 [.slice a6 nw c6] (by rfl) (RdV.block (cs := #[.slice a6 nw c6]) (t := 114) (by repeat (first | exact Blk.new' rfl _ _ | apply Blk.drew | apply Blk.alloc)) rfl (by decide)) (by simp [Value.oneCell']) HL1.out.1 HL1.out.2 ?_)
      intro a8 c8 w8 q8 grow8 hat8
      have G8 := (H6.out.rowNilF 114 1).growRow 0 rfl (Fr.alloc (Fr.refl nob w6) (.cells #[.slice a6 nw c6] 114)) q8 grow8 (fun g hg => (hat8 g hg).imp_left (fun h => h.imp_right (fun h => by simpa using h)))
      have HX : Hid (Heap w w8 ([rowP 114 1 (.slice a8 1 c8) 1 [.slice a6 nw c6]] ++ [blkP b1 33 #[.bool lf, .bool tg, .slice ap ps.length cp, .slice ak ks.length ck, .slice ac kids.length cc]])) := Lib.hid (by
        have h9 : Heap w w8 ([rowP 114 1 (.slice a8 1 c8) 1 [.slice a6 nw c6]] ++ [rowP 3 1 (.slice a6 nw c6) nw (intC wy)] ++ [blkP b1 33 #[.bool lf, .bool tg, .slice ap ps.length cp, .slice ak ks.length ck, .slice ac kids.length cc]]) := G8
        exact Heap.mid h9)
      clear G8 q8 grow8 hat8 H6
      go_wp2_with fail
      go_meet
      exact ⟨1, a8, c8, [.slice a6 nw c6], rfl, Nat.le_refl _, Lib.hid ⟨HZ.out, fun u hu => by simp at hu; subst hu; rfl, HX.out⟩⟩
  case rest =>
  obtain ⟨n0, ao, co, us, rfl, hn0, HQ⟩ := hcut
  clear HH HQQ
  rename World => w9
  by_cases hret : bb = true ∧ alone = true
  · obtain ⟨rfl, rfl⟩ := hret
    have HNE : Hid (n0 = N) := Lib.hid (by
      rw [HNN.out, HBB.out, if_pos (⟨rfl, rfl⟩ : true = true ∧ true = true)]
      exact HQ.out.1)
    go_wp2_with fail
    go_ret
    refine ⟨ao, co, us, ?_, HQ.out.2.1, ?_⟩
    · rw [← HNE.out]; rfl
    · rw [← HNE.out]
      exact HQ.out.2.2.first (l := [rowP 114 1 (.slice ao n0 co) n0 us])
  · have HNE : Hid (n0 + waysNs kids a tgd alone = N) := Lib.hid (by
      rw [HNN.out, HBB.out, if_neg hret, HQ.out.1])
    have x4 := (HQ.out.2.2.blk 1 (b := b1) (t := 33) (c := #[.bool lf, .bool tg, .slice ap ps.length cp, .slice ak ks.length ck, .slice ac kids.length cc]) rfl).cell 4
    have hcase : bb = false ∨ (bb = true ∧ alone = false) := by
      cases bb with
      | false => exact .inl rfl
      | true =>
        right
        cases alone with
        | false => exact ⟨rfl, rfl⟩
        | true => exact absurd ⟨rfl, rfl⟩ hret
    clear hret
    go_upto_region 5 with fail
    go_cut [41] from 38 to 41 (fun s41 wx => s41 = .bool false ∧ wx = w9)
    case first =>
      rcases hcase with rfl | ⟨rfl, rfl⟩
      all_goals
        go_wp2_with fail
        go_meet
        exact ⟨rfl, rfl⟩
    case rest =>
    obtain ⟨rfl, hwx⟩ := hcut
    subst hwx
    rename World => w10
    clear hcase
    go_wp2_with fail
    clear x4
    go_loopw [11, 46] (fun s11 q wr => ∃ (j n1 : Nat) (ao : Option Addr) (co : Nat) (us : List Value), q = .int .i64 (j : Nat) ∧ j ≤ kids.length ∧ s11 = .slice ao n1 co ∧ n1 ≤ 1000000 ∧ Hid (n0 + waysNs (kids.take j) a tgd alone = n1 ∧ AllOne us ∧ Heap w wr ([rowP 114 1 (.slice ao n1 co) n1 us] ++ [blkP b1 33 #[.bool lf, .bool tg, .slice ap ps.length cp, .slice ak ks.length ck, .slice ac kids.length cc]]))) (fun _ q _ => kids.length - (intOf q).toNat)
    case atStart => exact ⟨0, n0, ao, co, us, rfl, Nat.zero_le _, rfl, by omega, Lib.hid ⟨by simp [waysNs], HQ.out.2.1, HQ.out.2.2⟩⟩
    case round =>
    clear HQ
    obtain ⟨j, n1, ao, co, us, rfl, hj, rfl, hn1, HQ⟩ := hrel
    obtain ⟨hcnt, hone, H0⟩ := HQ.out
    have HH := Lib.hid H0
    have HON := Lib.hid hone
    clear HQ H0 hone
    by_cases hlt : j < kids.length
    · have HLT := Lib.hid hlt
      obtain ⟨kd, hkd⟩ : ∃ x, kids[j]? = some x := ⟨_, List.getElem?_eq_getElem hlt⟩
      obtain ⟨cv, hcv⟩ : ∃ x, cs[j]? = some x := ⟨_, List.getElem?_eq_getElem (by rw [HR.out.2.2.1]; exact hlt)⟩
      have hS0 := ShsIn.get kids cs j kd cv HR.out.2.1 hkd hcv
      obtain ⟨kp1, kp2, kp3, kp4, kp5, kp6, rfl⟩ := hS0.form
      have hzip : (kids.zip cs)[j]? = some (kd, ⟨.slice kp1 kd.ps.length kp2, .slice kp3 kd.ks.length kp4, .slice kp5 kd.kids.length kp6⟩) := by rw [List.getElem?_zip_eq_some]; exact ⟨hkd, hcv⟩
      have R3 := HR.out.1.1.fr HH.out.fr (fun _ _ _ x => x)
      obtain ⟨g1, rfl, _, _⟩ := R3.at (by omega)
      obtain ⟨k0, k1, k2, k3, k4⟩ := R3.five hzip hlt
      dsimp only at k2 k3 k4
      have H4 := HH.out.allocF 33 #[.bool kd.lf, .bool kd.tg, .slice kp1 kd.ps.length kp2, .slice kp3 kd.ks.length kp4, .slice kp5 kd.kids.length kp6]
      obtain ⟨b4, hb4⟩ : ∃ b, wr.heap.size = b := ⟨_, rfl⟩
      obtain ⟨w4, hw4⟩ : ∃ z, wr.alloc (.cells #[.bool kd.lf, .bool kd.tg, .slice kp1 kd.ps.length kp2, .slice kp3 kd.ks.length kp4, .slice kp5 kd.kids.length kp6] 33) = z := ⟨_, rfl⟩
      rw [hb4, hw4] at H4
      have B4 := H4.blk 0 rfl
      have y0 := B4.cell 0
      have y1 := B4.cell 1
      have y2 := B4.cell 2
      have y3 := B4.cell 3
      have y4 := B4.cell 4
      have hSw := hS0
      have H4' := Lib.hid H4
      have HWW := Lib.hid (And.intro hb4 hw4)
      have HKD := Lib.hid hkd
      clear hkd hcv hS0 hzip R3 H4 B4 HH hb4 hw4
      obtain ⟨e, he, hde⟩ := dpSh_kid HR.out.2.2.2.1 HKD.out
      have hmk : manySh kd ≤ 1000000 := by
        have h1 := HR.out.2.2.2.2
        rw [manySh_mk] at h1
        have h2 := manyShs_take kids (j + 1)
        rw [manyShs_next HKD.out] at h2
        omega
      obtain ⟨n2, hn2⟩ : ∃ x, waysN kd a false tgd alone = x := ⟨_, rfl⟩
      have HCN : Hid (n0 + waysNs (kids.take (j + 1)) a tgd alone = n1 + n2) := Lib.hid (by rw [waysNs_next HKD.out, hn2]; omega)
      have hn12 : n1 + n2 ≤ 1000000 := by
        have h1 := HNE.out
        have h2 := HNB.out
        have h3 := waysNs_append a tgd alone (kids.take (j + 1)) (kids.drop (j + 1))
        rw [List.take_append_drop] at h3
        have h4 := HCN.out
        omega
      have HWL : Hid (nw + 1 + e ≤ 1000) := Lib.hid (by omega)
      have CA := Lib.hid (fun z (hz : Fr nob w z) (vq : Value) (hq : RdV z vq (nw + 1) 1 (intC (wy ++ [(j : Int)]))) => (show Calls Try.prog 48 #[shV kd ⟨.slice kp1 kd.ps.length kp2, .slice kp3 kd.ks.length kp4, .slice kp5 kd.kids.length kp6⟩, .int .i64 a, vq, .bool tgd, .bool alone] z (waysPost z n2) from by
        have hwl9 : (wy ++ [(j : Int)]).length = nw + 1 := by rw [List.length_append, HNW.out]; rfl
        have h9 := HIH.out e he z S kd _ a vq (wy ++ [(j : Int)]) tgd alone (hSw.fr0 hz) hde hmk (by rw [hwl9]; exact hq) (by rw [hwl9]; exact HWL.out)
        rw [hwl9, decide_eq_false (by omega : ¬ nw + 1 = 0), hn2] at h9
        exact h9))
      have HLW := Lib.hid (show 0 + nw ≤ maxLen ∧ (0 + nw) * 8 ≤ 140737488355328 by unfold maxLen; omega)
      have HL := Lib.hid (show nw + 1 ≤ maxLen ∧ (nw + 1) * 8 ≤ 140737488355328 by unfold maxLen; omega)
      have HLM := Lib.hid (show n1 + n2 ≤ maxLen ∧ (n1 + n2) * 24 ≤ 140737488355328 by unfold maxLen; omega)
      clear he hde hmk hn2 hcnt hSw hlt
      go_upto_region 10 with fail
      rw [HWW.out.1, HWW.out.2]
      clear HWW k0 k1 k2 k3 k4 y0 y1 y2 y3 y4
      have HF : Hid (∀ z, (∃ l, Hid (Heap w z (l ++ ([blkP b4 33 #[.bool kd.lf, .bool kd.tg, .slice kp1 kd.ps.length kp2, .slice kp3 kd.ks.length kp4, .slice kp5 kd.kids.length kp6]] ++ [blkP b1 33 #[.bool lf, .bool tg, .slice ap ps.length cp, .slice ak ks.length ck, .slice (some g1) kids.length cc]])))) → World.cell? z ⟨b4, 0, none⟩ = some (.bool kd.lf) ∧ World.cell? z ⟨b4, 1, none⟩ = some (.bool kd.tg) ∧ World.cell? z ⟨b4, 2, none⟩ = some (.slice kp1 kd.ps.length kp2) ∧ World.cell? z ⟨b4, 3, none⟩ = some (.slice kp3 kd.ks.length kp4) ∧ World.cell? z ⟨b4, 4, none⟩ = some (.slice kp5 kd.kids.length kp6)) := Lib.hid (fun z ⟨l, hz⟩ => by
        have X := (Heap.swapF hz.out).blk 0 (b := b4) (t := 33) (c := #[.bool kd.lf, .bool kd.tg, .slice kp1 kd.ps.length kp2, .slice kp3 kd.ks.length kp4, .slice kp5 kd.kids.length kp6]) rfl
        exact ⟨X.cell 0, X.cell 1, X.cell 2, X.cell 3, X.cell 4⟩)
      have HZ : Hid (Heap w (World.drew w4) ([rowP 114 1 (.slice ao n1 co) n1 us] ++ ([blkP b4 33 #[.bool kd.lf, .bool kd.tg, .slice kp1 kd.ps.length kp2, .slice kp3 kd.ks.length kp4, .slice kp5 kd.kids.length kp6]] ++ [blkP b1 33 #[.bool lf, .bool tg, .slice ap ps.length cp, .slice ak ks.length ck, .slice (some g1) kids.length cc]]))) := Lib.hid H4'.out.drew.swap2
      refine wp_region_noPanic ?_
      refine AnyK.start (ks := [12, 13]) (S := fun w' => ∃ l, Hid (Heap w w' (l ++ ([blkP b4 33 #[.bool kd.lf, .bool kd.tg, .slice kp1 kd.ps.length kp2, .slice kp3 kd.ks.length kp4, .slice kp5 kd.kids.length kp6]] ++ [blkP b1 33 #[.bool lf, .bool tg, .slice ap ps.length cp, .slice ak ks.length ck, .slice (some g1) kids.length cc]])))) (by kernel_rfl) (by exact ⟨_, HZ⟩) (fun _ => ?_)
      refine AnyK.takeB (i := 0) (v := ?_) rfl (by kernel_rfl) (by kernel_rfl) (by kernel_rfl) (by kernel_rfl) (fun _ _ _ h => h) (Or.inl ⟨by kernel_rfl, ?_⟩) (by exact ⟨_, HZ⟩) ?_
      rotate_left
      focus
        intro w9 hSw
        have hSw := HF.out w9 hSw
        go_simp
        try with_reducible rfl
      try simp only [Act.put, List.getElem_toArray, List.getElem_cons_zero, List.getElem_cons_succ, List.setIfInBounds_toArray, List.set_cons_zero, List.set_cons_succ]
      refine AnyK.takeB (i := 1) (v := ?_) rfl (by kernel_rfl) (by kernel_rfl) (by kernel_rfl) (by kernel_rfl) (fun _ _ _ h => h) (Or.inl ⟨by kernel_rfl, ?_⟩) (by exact ⟨_, HZ⟩) ?_
      rotate_left
      focus
        intro w9 hSw
        have hSw := HF.out w9 hSw
        go_simp
        try with_reducible rfl
      try simp only [Act.put, List.getElem_toArray, List.getElem_cons_zero, List.getElem_cons_succ, List.setIfInBounds_toArray, List.set_cons_zero, List.set_cons_succ]
      refine AnyK.takeB (i := 2) (v := ?_) rfl (by kernel_rfl) (by kernel_rfl) (by kernel_rfl) (by kernel_rfl) (fun _ _ _ h => h) (Or.inl ⟨by kernel_rfl, ?_⟩) (by exact ⟨_, HZ⟩) ?_
      rotate_left
      focus
        intro w9 hSw
        have hSw := HF.out w9 hSw
        go_simp
        try with_reducible rfl
      try simp only [Act.put, List.getElem_toArray, List.getElem_cons_zero, List.getElem_cons_succ, List.setIfInBounds_toArray, List.set_cons_zero, List.set_cons_succ]
      refine AnyK.takeB (i := 4) (v := ?_) rfl (by kernel_rfl) (by kernel_rfl) (by kernel_rfl) (by kernel_rfl) (fun _ _ _ h => h) (Or.inl ⟨by kernel_rfl, ?_⟩) (by exact ⟨_, HZ⟩) ?_
      rotate_left
      focus
        intro w9 hSw
        have hSw := HF.out w9 hSw
        go_simp
        try with_reducible rfl
      try simp only [Act.put, List.getElem_toArray, List.getElem_cons_zero, List.getElem_cons_succ, List.setIfInBounds_toArray, List.set_cons_zero, List.set_cons_succ]
      refine AnyK.takeB (i := 6) (v := ?_) rfl (by kernel_rfl) (by kernel_rfl) (by kernel_rfl) (by kernel_rfl) (fun _ _ _ h => h) (Or.inl ⟨by kernel_rfl, ?_⟩) (by exact ⟨_, HZ⟩) ?_
      rotate_left
      focus
        intro w9 hSw
        have hSw := HF.out w9 hSw
        go_simp
        try with_reducible rfl
      try simp only [Act.put, List.getElem_toArray, List.getElem_cons_zero, List.getElem_cons_succ, List.setIfInBounds_toArray, List.set_cons_zero, List.set_cons_succ]
      refine AnyK.takeB (i := 9) (v := ?_) rfl (by kernel_rfl) (by kernel_rfl) (by kernel_rfl) (by kernel_rfl) (fun _ _ _ h => h) (Or.inl ⟨by kernel_rfl, ?_⟩) (by exact ⟨_, HZ⟩) ?_
      rotate_left
      focus
        intro w9 hSw
        have hSw := HF.out w9 hSw
        go_simp
        try with_reducible rfl
      try simp only [Act.put, List.getElem_toArray, List.getElem_cons_zero, List.getElem_cons_succ, List.setIfInBounds_toArray, List.set_cons_zero, List.set_cons_succ]
      refine AnyK.takeB (i := 10) (v := ?_) rfl (by kernel_rfl) (by kernel_rfl) (by kernel_rfl) (by kernel_rfl) (fun _ _ _ h => h) (Or.inl ⟨by kernel_rfl, ?_⟩) (by exact ⟨_, HZ⟩) ?_
      rotate_left
      focus
        intro w9 hSw
        have hSw := HF.out w9 hSw
        go_simp
        try with_reducible rfl
      try simp only [Act.put, List.getElem_toArray, List.getElem_cons_zero, List.getElem_cons_succ, List.setIfInBounds_toArray, List.set_cons_zero, List.set_cons_succ]
      refine name_w (fun z0 hz0 => ?_)
      rw [hz0] at HZ
      clear hz0
      refine AnyK.two (i := 3) (j := 7) (by kernel_rfl) rfl rfl (fun K9 hK9 => ?_) (fun K9 hK9 => ?_)
      · go_simp
        have H9 := HZ.out.row0F 3 1
        generalize z0.heap.size = bw at H9 hK9 ⊢
        generalize z0.alloc (.cells #[] 3) = x3 at H9 hK9 ⊢
        have H9 : Heap w x3 ([rowP 3 1 (.slice (some ⟨bw, 0, none⟩) 0 0) 0 [], rowP 114 1 (.slice ao n1 co) n1 us] ++ ([blkP b4 33 #[.bool kd.lf, .bool kd.tg, .slice kp1 kd.ps.length kp2, .slice kp3 kd.ks.length kp4, .slice kp5 kd.kids.length kp6]] ++ [blkP b1 33 #[.bool lf, .bool tg, .slice ap ps.length cp, .slice ak ks.length ck, .slice (some g1) kids.length cc]])) := H9
        have E0HH1 := Lib.hid H9
        clear H9 HZ
        refine hK9.out _ _ (fun _ => ⟨_, E0HH1⟩) ?_
        clear hK9 K9
        try simp only [Act.put, List.getElem_toArray, List.getElem_cons_zero, List.getElem_cons_succ, List.setIfInBounds_toArray, List.set_cons_zero, List.set_cons_succ]
        refine AnyK.two (i := 5) (j := 7) (by kernel_rfl) rfl rfl (fun K9 hK9 => ?_) (fun K9 hK9 => ?_)
        · refine step_append_typed _ (by rfl) (.tmp 54) (.tmp 55) 114 (by rfl) 3 j0 (.int .i64 0) 1 8 Try.underlying114 J0.out.1 J0.out.2.1 J0.out.2.2.1 J0.out.2.2.2 rfl (by decide) (.slice (some ⟨bw, 0, none⟩) 0 0) 0 [] (by simp [Act.eval]) (E0HH1.out.row 0 rfl) (.slice aw nw cw) nw (intC wy) (by simp [Act.eval]) (by have h9 := HWY.out.fr E0HH1.out.fr (fun _ _ _ x => x); rw [HNW.out] at h9; exact h9) (intC_one wy) HLW.out.1 HLW.out.2 ?_
          intro a5 c5 w5 q5 grow5 hat5
          have H9 := E0HH1.out.appRow 0 (m := nw) rfl (Fr.refl _ _) q5 grow5 hat5
          rw [Nat.zero_add, List.nil_append] at H9
          rw [Nat.zero_add]
          clear q5 grow5 hat5
          have H9 : Heap w w5 ([rowP 3 1 (.slice a5 nw c5) nw (intC wy), rowP 114 1 (.slice ao n1 co) n1 us] ++ ([blkP b4 33 #[.bool kd.lf, .bool kd.tg, .slice kp1 kd.ps.length kp2, .slice kp3 kd.ks.length kp4, .slice kp5 kd.kids.length kp6]] ++ [blkP b1 33 #[.bool lf, .bool tg, .slice ap ps.length cp, .slice ak ks.length ck, .slice (some g1) kids.length cc]])) := H9
          have E1HH2 := Lib.hid H9
          clear H9 E0HH1
          refine hK9.out _ _ (fun _ => ⟨_, E1HH2⟩) ?_
          clear hK9 K9
          try simp only [Act.put, List.getElem_toArray, List.getElem_cons_zero, List.getElem_cons_succ, List.setIfInBounds_toArray, List.set_cons_zero, List.set_cons_succ]
          refine AnyK.one (i := 7) (by kernel_rfl) rfl (fun K9 hK9 => ?_)
          go_simp
          have H9 := E1HH2.out.allocF 3 #[.int .i64 (j : Int)]
          generalize w5.heap.size = bj at H9 hK9 ⊢
          generalize w5.alloc (.cells #[.int .i64 (j : Int)] 3) = x7 at H9 hK9 ⊢
          have H9 : Heap w x7 ([blkP bj 3 #[.int .i64 (j : Int)], rowP 3 1 (.slice a5 nw c5) nw (intC wy), rowP 114 1 (.slice ao n1 co) n1 us] ++ ([blkP b4 33 #[.bool kd.lf, .bool kd.tg, .slice kp1 kd.ps.length kp2, .slice kp3 kd.ks.length kp4, .slice kp5 kd.kids.length kp6]] ++ [blkP b1 33 #[.bool lf, .bool tg, .slice ap ps.length cp, .slice ak ks.length ck, .slice (some g1) kids.length cc]])) := H9
          have E2HH3 := Lib.hid H9
          clear H9 E1HH2
          refine hK9.out _ _ (fun _ => ⟨_, E2HH3⟩) ?_
          clear hK9 K9
          try simp only [Act.put, List.getElem_toArray, List.getElem_cons_zero, List.getElem_cons_succ, List.setIfInBounds_toArray, List.set_cons_zero, List.set_cons_succ]
          refine AnyK.one (i := 8) (by kernel_rfl) rfl (fun K9 hK9 => ?_)
          refine step_append_typed _ (by rfl) (.tmp 56) (.tmp 58) 114 (by rfl) 3 j0 (.int .i64 0) 1 8 Try.underlying114 J0.out.1 J0.out.2.1 J0.out.2.2.1 J0.out.2.2.2 rfl (by decide) (.slice a5 nw c5) nw (intC wy) (by simp [Act.eval]) (E2HH3.out.row 1 rfl) (.slice (some ⟨bj, 0, none⟩) 1 1) 1 [.int .i64 (j : Int)] (by simp [Act.eval]) (RdV.block (cs := #[.int .i64 (j : Int)]) (t := 3) (E2HH3.out.blk 0 rfl) rfl (by decide)) (by simp [Value.oneCell']) HL.out.1 HL.out.2 ?_
          intro a8 c8 w8 q8 grow8 hat8
          have H9 := E2HH3.out.growRow 1 rfl (Fr.refl _ _) q8 grow8 (fun g hg => (hat8 g hg).resolve_left (fun h => absurd h.1 (by decide)))
          clear q8 grow8 hat8
          have H9 : Heap w w8 ([blkP bj 3 #[.int .i64 (j : Int)], rowP 3 1 (.slice a8 (nw + 1) c8) (nw + 1) (intC wy ++ [.int .i64 (j : Int)]), rowP 114 1 (.slice ao n1 co) n1 us] ++ ([blkP b4 33 #[.bool kd.lf, .bool kd.tg, .slice kp1 kd.ps.length kp2, .slice kp3 kd.ks.length kp4, .slice kp5 kd.kids.length kp6]] ++ [blkP b1 33 #[.bool lf, .bool tg, .slice ap ps.length cp, .slice ak ks.length ck, .slice (some g1) kids.length cc]])) := H9
          have E3HH4 := Lib.hid H9
          clear H9 E2HH3
          refine hK9.out _ _ (fun _ => ⟨_, E3HH4⟩) ?_
          clear hK9 K9
          try simp only [Act.put, List.getElem_toArray, List.getElem_cons_zero, List.getElem_cons_succ, List.setIfInBounds_toArray, List.set_cons_zero, List.set_cons_succ]
          refine AnyK.one (i := 11) (by kernel_rfl) rfl (fun K9 hK9 => ?_)
          go_simp
          refine (CA.out _ E3HH4.out.fr (.slice a8 (nw + 1) c8) (by
            rw [intC_snoc]
            exact (E3HH4.out.row 1 (t := 3) (sz := 1) (n := nw + 1) (v := .slice a8 (nw + 1) c8) (us := intC wy ++ [.int .i64 (j : Int)]) rfl).rdv)).mono ?_
          rintro e9 w11 ⟨a11, c11, us11, rfl, hone11, H11⟩
          have HO11 := Lib.hid hone11
          have H9 := E3HH4.out.join H11
          clear H11 hone11
          dsimp only
          have H9 : Heap w w11 ([rowP 114 1 (.slice a11 n2 c11) n2 us11, blkP bj 3 #[.int .i64 (j : Int)], rowP 3 1 (.slice a8 (nw + 1) c8) (nw + 1) (intC wy ++ [.int .i64 (j : Int)]), rowP 114 1 (.slice ao n1 co) n1 us] ++ ([blkP b4 33 #[.bool kd.lf, .bool kd.tg, .slice kp1 kd.ps.length kp2, .slice kp3 kd.ks.length kp4, .slice kp5 kd.kids.length kp6]] ++ [blkP b1 33 #[.bool lf, .bool tg, .slice ap ps.length cp, .slice ak ks.length ck, .slice (some g1) kids.length cc]])) := H9
          have E4HH5 := Lib.hid H9
          clear H9 E3HH4
          refine hK9.out _ _ (fun _ => ⟨_, E4HH5⟩) ?_
          clear hK9 K9
          try simp only [Act.put, List.getElem_toArray, List.getElem_cons_zero, List.getElem_cons_succ, List.setIfInBounds_toArray, List.set_cons_zero, List.set_cons_succ]
          refine AnyK.one (i := 12) (by kernel_rfl) rfl (fun K9 hK9 => ?_)
          refine step_append_typed _ (by rfl) (.tmp 51) (.tmp 62) 96 (by rfl) 114 i0 (.slice none 0 0) 1 24 Try.underlying96 I0.out.1 I0.out.2.1 I0.out.2.2.1 I0.out.2.2.2 rfl (by decide) (.slice ao n1 co) n1 us (by simp [Act.eval]) (E4HH5.out.row 3 rfl) (.slice a11 n2 c11) n2 us11 (by simp [Act.eval]) (E4HH5.out.row 0 (t := 114) (sz := 1) (n := n2) (v := .slice a11 n2 c11) (us := us11) rfl).rdv HO11.out HLM.out.1 HLM.out.2 ?_
          intro a12 c12 w12 q12 grow12 hat12
          have H9 := E4HH5.out.appRow 3 (m := n2) rfl (Fr.refl _ _) q12 grow12 hat12
          clear q12 grow12 hat12
          have H9 : Heap w w12 ([rowP 114 1 (.slice a11 n2 c11) n2 us11, blkP bj 3 #[.int .i64 (j : Int)], rowP 3 1 (.slice a8 (nw + 1) c8) (nw + 1) (intC wy ++ [.int .i64 (j : Int)]), rowP 114 1 (.slice a12 (n1 + n2) c12) (n1 + n2) (us ++ us11)] ++ ([blkP b4 33 #[.bool kd.lf, .bool kd.tg, .slice kp1 kd.ps.length kp2, .slice kp3 kd.ks.length kp4, .slice kp5 kd.kids.length kp6]] ++ [blkP b1 33 #[.bool lf, .bool tg, .slice ap ps.length cp, .slice ak ks.length ck, .slice (some g1) kids.length cc]])) := H9
          have E5HH6 := Lib.hid H9
          clear H9 E4HH5
          refine hK9.out _ _ (fun h => absurd (by decide) h) ?_
          clear hK9 K9
          try simp only [Act.put, List.getElem_toArray, List.getElem_cons_zero, List.getElem_cons_succ, List.setIfInBounds_toArray, List.set_cons_zero, List.set_cons_succ]
          refine AnyK.phase (S' := fun _ => True) (ks' := []) (by kernel_rfl) ?_
          refine AnyK.take (i := 13) (v := ?_) rfl (by kernel_rfl) (by kernel_rfl) (by kernel_rfl) (by kernel_rfl) (fun _ _ _ h => h) (Or.inl ⟨by rfl, ?_⟩) (by exact trivial) ?_
          rotate_left
          focus
            intro w9 hSw
            try dsimp only at hSw
            go_simp
            try with_reducible rfl
          try simp only [Act.put, List.getElem_toArray, List.getElem_cons_zero, List.getElem_cons_succ, List.setIfInBounds_toArray, List.set_cons_zero, List.set_cons_succ]
          have H9 := E5HH6.out
          have H9 := Heap.mid (l := []) (m := [rowP 114 1 (.slice a11 n2 c11) n2 us11]) H9
          have H9 := Heap.mid (l := []) (m := [blkP bj 3 #[.int .i64 (j : Int)]]) H9
          have H9 := Heap.mid (l := []) (m := [rowP 3 1 (.slice a8 (nw + 1) c8) (nw + 1) (intC wy ++ [.int .i64 (j : Int)])]) H9
          have HX := Lib.hid (Heap.mid (l := [rowP 114 1 (.slice a12 (n1 + n2) c12) (n1 + n2) (us ++ us11)]) (m := [blkP b4 33 #[.bool kd.lf, .bool kd.tg, .slice kp1 kd.ps.length kp2, .slice kp3 kd.ks.length kp4, .slice kp5 kd.kids.length kp6]]) H9)
          clear H9 E5HH6
          refine AnyK.done (by kernel_rfl) ?_ _
          refine NoPanic.normal ?_
          go_wp2_with fail
          exact ⟨⟨j + 1, n1 + n2, a12, c12, us ++ us11, by go_num, by have := HLT.out; omega, rfl, hn12, Lib.hid ⟨HCN.out, HON.out.app HO11.out, HX.out⟩⟩, by have := HLT.out; simp [intOf]; omega⟩
        · go_simp
          have H9 := E0HH1.out.allocF 3 #[.int .i64 (j : Int)]
          generalize x3.heap.size = bj at H9 hK9 ⊢
          generalize x3.alloc (.cells #[.int .i64 (j : Int)] 3) = x7 at H9 hK9 ⊢
          have H9 : Heap w x7 ([blkP bj 3 #[.int .i64 (j : Int)], rowP 3 1 (.slice (some ⟨bw, 0, none⟩) 0 0) 0 [], rowP 114 1 (.slice ao n1 co) n1 us] ++ ([blkP b4 33 #[.bool kd.lf, .bool kd.tg, .slice kp1 kd.ps.length kp2, .slice kp3 kd.ks.length kp4, .slice kp5 kd.kids.length kp6]] ++ [blkP b1 33 #[.bool lf, .bool tg, .slice ap ps.length cp, .slice ak ks.length ck, .slice (some g1) kids.length cc]])) := H9
          have E6HH2 := Lib.hid H9
          clear H9 E0HH1
          refine hK9.out _ _ (fun _ => ⟨_, E6HH2⟩) ?_
          clear hK9 K9
          try simp only [Act.put, List.getElem_toArray, List.getElem_cons_zero, List.getElem_cons_succ, List.setIfInBounds_toArray, List.set_cons_zero, List.set_cons_succ]
          refine AnyK.one (i := 5) (by kernel_rfl) rfl (fun K9 hK9 => ?_)
          refine step_append_typed _ (by rfl) (.tmp 54) (.tmp 55) 114 (by rfl) 3 j0 (.int .i64 0) 1 8 Try.underlying114 J0.out.1 J0.out.2.1 J0.out.2.2.1 J0.out.2.2.2 rfl (by decide) (.slice (some ⟨bw, 0, none⟩) 0 0) 0 [] (by simp [Act.eval]) (E6HH2.out.row 1 rfl) (.slice aw nw cw) nw (intC wy) (by simp [Act.eval]) (by have h9 := HWY.out.fr E6HH2.out.fr (fun _ _ _ x => x); rw [HNW.out] at h9; exact h9) (intC_one wy) HLW.out.1 HLW.out.2 ?_
          intro a5 c5 w5 q5 grow5 hat5
          have H9 := E6HH2.out.appRow 1 (m := nw) rfl (Fr.refl _ _) q5 grow5 hat5
          rw [Nat.zero_add, List.nil_append] at H9
          rw [Nat.zero_add]
          clear q5 grow5 hat5
          have H9 : Heap w w5 ([blkP bj 3 #[.int .i64 (j : Int)], rowP 3 1 (.slice a5 nw c5) nw (intC wy), rowP 114 1 (.slice ao n1 co) n1 us] ++ ([blkP b4 33 #[.bool kd.lf, .bool kd.tg, .slice kp1 kd.ps.length kp2, .slice kp3 kd.ks.length kp4, .slice kp5 kd.kids.length kp6]] ++ [blkP b1 33 #[.bool lf, .bool tg, .slice ap ps.length cp, .slice ak ks.length ck, .slice (some g1) kids.length cc]])) := H9
          have E7HH3 := Lib.hid H9
          clear H9 E6HH2
          refine hK9.out _ _ (fun _ => ⟨_, E7HH3⟩) ?_
          clear hK9 K9
          try simp only [Act.put, List.getElem_toArray, List.getElem_cons_zero, List.getElem_cons_succ, List.setIfInBounds_toArray, List.set_cons_zero, List.set_cons_succ]
          refine AnyK.one (i := 8) (by kernel_rfl) rfl (fun K9 hK9 => ?_)
          refine step_append_typed _ (by rfl) (.tmp 56) (.tmp 58) 114 (by rfl) 3 j0 (.int .i64 0) 1 8 Try.underlying114 J0.out.1 J0.out.2.1 J0.out.2.2.1 J0.out.2.2.2 rfl (by decide) (.slice a5 nw c5) nw (intC wy) (by simp [Act.eval]) (E7HH3.out.row 1 rfl) (.slice (some ⟨bj, 0, none⟩) 1 1) 1 [.int .i64 (j : Int)] (by simp [Act.eval]) (RdV.block (cs := #[.int .i64 (j : Int)]) (t := 3) (E7HH3.out.blk 0 rfl) rfl (by decide)) (by simp [Value.oneCell']) HL.out.1 HL.out.2 ?_
          intro a8 c8 w8 q8 grow8 hat8
          have H9 := E7HH3.out.growRow 1 rfl (Fr.refl _ _) q8 grow8 (fun g hg => (hat8 g hg).resolve_left (fun h => absurd h.1 (by decide)))
          clear q8 grow8 hat8
          have H9 : Heap w w8 ([blkP bj 3 #[.int .i64 (j : Int)], rowP 3 1 (.slice a8 (nw + 1) c8) (nw + 1) (intC wy ++ [.int .i64 (j : Int)]), rowP 114 1 (.slice ao n1 co) n1 us] ++ ([blkP b4 33 #[.bool kd.lf, .bool kd.tg, .slice kp1 kd.ps.length kp2, .slice kp3 kd.ks.length kp4, .slice kp5 kd.kids.length kp6]] ++ [blkP b1 33 #[.bool lf, .bool tg, .slice ap ps.length cp, .slice ak ks.length ck, .slice (some g1) kids.length cc]])) := H9
          have E8HH4 := Lib.hid H9
          clear H9 E7HH3
          refine hK9.out _ _ (fun _ => ⟨_, E8HH4⟩) ?_
          clear hK9 K9
          try simp only [Act.put, List.getElem_toArray, List.getElem_cons_zero, List.getElem_cons_succ, List.setIfInBounds_toArray, List.set_cons_zero, List.set_cons_succ]
          refine AnyK.one (i := 11) (by kernel_rfl) rfl (fun K9 hK9 => ?_)
          go_simp
          refine (CA.out _ E8HH4.out.fr (.slice a8 (nw + 1) c8) (by
            rw [intC_snoc]
            exact (E8HH4.out.row 1 (t := 3) (sz := 1) (n := nw + 1) (v := .slice a8 (nw + 1) c8) (us := intC wy ++ [.int .i64 (j : Int)]) rfl).rdv)).mono ?_
          rintro e9 w11 ⟨a11, c11, us11, rfl, hone11, H11⟩
          have HO11 := Lib.hid hone11
          have H9 := E8HH4.out.join H11
          clear H11 hone11
          dsimp only
          have H9 : Heap w w11 ([rowP 114 1 (.slice a11 n2 c11) n2 us11, blkP bj 3 #[.int .i64 (j : Int)], rowP 3 1 (.slice a8 (nw + 1) c8) (nw + 1) (intC wy ++ [.int .i64 (j : Int)]), rowP 114 1 (.slice ao n1 co) n1 us] ++ ([blkP b4 33 #[.bool kd.lf, .bool kd.tg, .slice kp1 kd.ps.length kp2, .slice kp3 kd.ks.length kp4, .slice kp5 kd.kids.length kp6]] ++ [blkP b1 33 #[.bool lf, .bool tg, .slice ap ps.length cp, .slice ak ks.length ck, .slice (some g1) kids.length cc]])) := H9
          have E9HH5 := Lib.hid H9
          clear H9 E8HH4
          refine hK9.out _ _ (fun _ => ⟨_, E9HH5⟩) ?_
          clear hK9 K9
          try simp only [Act.put, List.getElem_toArray, List.getElem_cons_zero, List.getElem_cons_succ, List.setIfInBounds_toArray, List.set_cons_zero, List.set_cons_succ]
          refine AnyK.one (i := 12) (by kernel_rfl) rfl (fun K9 hK9 => ?_)
          refine step_append_typed _ (by rfl) (.tmp 51) (.tmp 62) 96 (by rfl) 114 i0 (.slice none 0 0) 1 24 Try.underlying96 I0.out.1 I0.out.2.1 I0.out.2.2.1 I0.out.2.2.2 rfl (by decide) (.slice ao n1 co) n1 us (by simp [Act.eval]) (E9HH5.out.row 3 rfl) (.slice a11 n2 c11) n2 us11 (by simp [Act.eval]) (E9HH5.out.row 0 (t := 114) (sz := 1) (n := n2) (v := .slice a11 n2 c11) (us := us11) rfl).rdv HO11.out HLM.out.1 HLM.out.2 ?_
          intro a12 c12 w12 q12 grow12 hat12
          have H9 := E9HH5.out.appRow 3 (m := n2) rfl (Fr.refl _ _) q12 grow12 hat12
          clear q12 grow12 hat12
          have H9 : Heap w w12 ([rowP 114 1 (.slice a11 n2 c11) n2 us11, blkP bj 3 #[.int .i64 (j : Int)], rowP 3 1 (.slice a8 (nw + 1) c8) (nw + 1) (intC wy ++ [.int .i64 (j : Int)]), rowP 114 1 (.slice a12 (n1 + n2) c12) (n1 + n2) (us ++ us11)] ++ ([blkP b4 33 #[.bool kd.lf, .bool kd.tg, .slice kp1 kd.ps.length kp2, .slice kp3 kd.ks.length kp4, .slice kp5 kd.kids.length kp6]] ++ [blkP b1 33 #[.bool lf, .bool tg, .slice ap ps.length cp, .slice ak ks.length ck, .slice (some g1) kids.length cc]])) := H9
          have E10HH6 := Lib.hid H9
          clear H9 E9HH5
          refine hK9.out _ _ (fun h => absurd (by decide) h) ?_
          clear hK9 K9
          try simp only [Act.put, List.getElem_toArray, List.getElem_cons_zero, List.getElem_cons_succ, List.setIfInBounds_toArray, List.set_cons_zero, List.set_cons_succ]
          refine AnyK.phase (S' := fun _ => True) (ks' := []) (by kernel_rfl) ?_
          refine AnyK.take (i := 13) (v := ?_) rfl (by kernel_rfl) (by kernel_rfl) (by kernel_rfl) (by kernel_rfl) (fun _ _ _ h => h) (Or.inl ⟨by rfl, ?_⟩) (by exact trivial) ?_
          rotate_left
          focus
            intro w9 hSw
            try dsimp only at hSw
            go_simp
            try with_reducible rfl
          try simp only [Act.put, List.getElem_toArray, List.getElem_cons_zero, List.getElem_cons_succ, List.setIfInBounds_toArray, List.set_cons_zero, List.set_cons_succ]
          have H9 := E10HH6.out
          have H9 := Heap.mid (l := []) (m := [rowP 114 1 (.slice a11 n2 c11) n2 us11]) H9
          have H9 := Heap.mid (l := []) (m := [blkP bj 3 #[.int .i64 (j : Int)]]) H9
          have H9 := Heap.mid (l := []) (m := [rowP 3 1 (.slice a8 (nw + 1) c8) (nw + 1) (intC wy ++ [.int .i64 (j : Int)])]) H9
          have HX := Lib.hid (Heap.mid (l := [rowP 114 1 (.slice a12 (n1 + n2) c12) (n1 + n2) (us ++ us11)]) (m := [blkP b4 33 #[.bool kd.lf, .bool kd.tg, .slice kp1 kd.ps.length kp2, .slice kp3 kd.ks.length kp4, .slice kp5 kd.kids.length kp6]]) H9)
          clear H9 E10HH6
          refine AnyK.done (by kernel_rfl) ?_ _
          refine NoPanic.normal ?_
          go_wp2_with fail
          exact ⟨⟨j + 1, n1 + n2, a12, c12, us ++ us11, by go_num, by have := HLT.out; omega, rfl, hn12, Lib.hid ⟨HCN.out, HON.out.app HO11.out, HX.out⟩⟩, by have := HLT.out; simp [intOf]; omega⟩
      · go_simp
        have H9 := HZ.out.allocF 3 #[.int .i64 (j : Int)]
        generalize z0.heap.size = bj at H9 hK9 ⊢
        generalize z0.alloc (.cells #[.int .i64 (j : Int)] 3) = x7 at H9 hK9 ⊢
        have H9 : Heap w x7 ([blkP bj 3 #[.int .i64 (j : Int)], rowP 114 1 (.slice ao n1 co) n1 us] ++ ([blkP b4 33 #[.bool kd.lf, .bool kd.tg, .slice kp1 kd.ps.length kp2, .slice kp3 kd.ks.length kp4, .slice kp5 kd.kids.length kp6]] ++ [blkP b1 33 #[.bool lf, .bool tg, .slice ap ps.length cp, .slice ak ks.length ck, .slice (some g1) kids.length cc]])) := H9
        have E11HH1 := Lib.hid H9
        clear H9 HZ
        refine hK9.out _ _ (fun _ => ⟨_, E11HH1⟩) ?_
        clear hK9 K9
        try simp only [Act.put, List.getElem_toArray, List.getElem_cons_zero, List.getElem_cons_succ, List.setIfInBounds_toArray, List.set_cons_zero, List.set_cons_succ]
        refine AnyK.one (i := 3) (by kernel_rfl) rfl (fun K9 hK9 => ?_)
        go_simp
        have H9 := E11HH1.out.row0F 3 1
        generalize x7.heap.size = bw at H9 hK9 ⊢
        generalize x7.alloc (.cells #[] 3) = x3 at H9 hK9 ⊢
        have H9 : Heap w x3 ([rowP 3 1 (.slice (some ⟨bw, 0, none⟩) 0 0) 0 [], blkP bj 3 #[.int .i64 (j : Int)], rowP 114 1 (.slice ao n1 co) n1 us] ++ ([blkP b4 33 #[.bool kd.lf, .bool kd.tg, .slice kp1 kd.ps.length kp2, .slice kp3 kd.ks.length kp4, .slice kp5 kd.kids.length kp6]] ++ [blkP b1 33 #[.bool lf, .bool tg, .slice ap ps.length cp, .slice ak ks.length ck, .slice (some g1) kids.length cc]])) := H9
        have E12HH2 := Lib.hid H9
        clear H9 E11HH1
        refine hK9.out _ _ (fun _ => ⟨_, E12HH2⟩) ?_
        clear hK9 K9
        try simp only [Act.put, List.getElem_toArray, List.getElem_cons_zero, List.getElem_cons_succ, List.setIfInBounds_toArray, List.set_cons_zero, List.set_cons_succ]
        refine AnyK.one (i := 5) (by kernel_rfl) rfl (fun K9 hK9 => ?_)
        refine step_append_typed _ (by rfl) (.tmp 54) (.tmp 55) 114 (by rfl) 3 j0 (.int .i64 0) 1 8 Try.underlying114 J0.out.1 J0.out.2.1 J0.out.2.2.1 J0.out.2.2.2 rfl (by decide) (.slice (some ⟨bw, 0, none⟩) 0 0) 0 [] (by simp [Act.eval]) (E12HH2.out.row 0 rfl) (.slice aw nw cw) nw (intC wy) (by simp [Act.eval]) (by have h9 := HWY.out.fr E12HH2.out.fr (fun _ _ _ x => x); rw [HNW.out] at h9; exact h9) (intC_one wy) HLW.out.1 HLW.out.2 ?_
        intro a5 c5 w5 q5 grow5 hat5
        have H9 := E12HH2.out.appRow 0 (m := nw) rfl (Fr.refl _ _) q5 grow5 hat5
        rw [Nat.zero_add, List.nil_append] at H9
        rw [Nat.zero_add]
        clear q5 grow5 hat5
        have H9 : Heap w w5 ([rowP 3 1 (.slice a5 nw c5) nw (intC wy), blkP bj 3 #[.int .i64 (j : Int)], rowP 114 1 (.slice ao n1 co) n1 us] ++ ([blkP b4 33 #[.bool kd.lf, .bool kd.tg, .slice kp1 kd.ps.length kp2, .slice kp3 kd.ks.length kp4, .slice kp5 kd.kids.length kp6]] ++ [blkP b1 33 #[.bool lf, .bool tg, .slice ap ps.length cp, .slice ak ks.length ck, .slice (some g1) kids.length cc]])) := H9
        have E13HH3 := Lib.hid H9
        clear H9 E12HH2
        refine hK9.out _ _ (fun _ => ⟨_, E13HH3⟩) ?_
        clear hK9 K9
        try simp only [Act.put, List.getElem_toArray, List.getElem_cons_zero, List.getElem_cons_succ, List.setIfInBounds_toArray, List.set_cons_zero, List.set_cons_succ]
        refine AnyK.one (i := 8) (by kernel_rfl) rfl (fun K9 hK9 => ?_)
        refine step_append_typed _ (by rfl) (.tmp 56) (.tmp 58) 114 (by rfl) 3 j0 (.int .i64 0) 1 8 Try.underlying114 J0.out.1 J0.out.2.1 J0.out.2.2.1 J0.out.2.2.2 rfl (by decide) (.slice a5 nw c5) nw (intC wy) (by simp [Act.eval]) (E13HH3.out.row 0 rfl) (.slice (some ⟨bj, 0, none⟩) 1 1) 1 [.int .i64 (j : Int)] (by simp [Act.eval]) (RdV.block (cs := #[.int .i64 (j : Int)]) (t := 3) (E13HH3.out.blk 1 rfl) rfl (by decide)) (by simp [Value.oneCell']) HL.out.1 HL.out.2 ?_
        intro a8 c8 w8 q8 grow8 hat8
        have H9 := E13HH3.out.growRow 0 rfl (Fr.refl _ _) q8 grow8 (fun g hg => (hat8 g hg).resolve_left (fun h => absurd h.1 (by decide)))
        clear q8 grow8 hat8
        have H9 : Heap w w8 ([rowP 3 1 (.slice a8 (nw + 1) c8) (nw + 1) (intC wy ++ [.int .i64 (j : Int)]), blkP bj 3 #[.int .i64 (j : Int)], rowP 114 1 (.slice ao n1 co) n1 us] ++ ([blkP b4 33 #[.bool kd.lf, .bool kd.tg, .slice kp1 kd.ps.length kp2, .slice kp3 kd.ks.length kp4, .slice kp5 kd.kids.length kp6]] ++ [blkP b1 33 #[.bool lf, .bool tg, .slice ap ps.length cp, .slice ak ks.length ck, .slice (some g1) kids.length cc]])) := H9
        have E14HH4 := Lib.hid H9
        clear H9 E13HH3
        refine hK9.out _ _ (fun _ => ⟨_, E14HH4⟩) ?_
        clear hK9 K9
        try simp only [Act.put, List.getElem_toArray, List.getElem_cons_zero, List.getElem_cons_succ, List.setIfInBounds_toArray, List.set_cons_zero, List.set_cons_succ]
        refine AnyK.one (i := 11) (by kernel_rfl) rfl (fun K9 hK9 => ?_)
        go_simp
        refine (CA.out _ E14HH4.out.fr (.slice a8 (nw + 1) c8) (by
          rw [intC_snoc]
          exact (E14HH4.out.row 0 (t := 3) (sz := 1) (n := nw + 1) (v := .slice a8 (nw + 1) c8) (us := intC wy ++ [.int .i64 (j : Int)]) rfl).rdv)).mono ?_
        rintro e9 w11 ⟨a11, c11, us11, rfl, hone11, H11⟩
        have HO11 := Lib.hid hone11
        have H9 := E14HH4.out.join H11
        clear H11 hone11
        dsimp only
        have H9 : Heap w w11 ([rowP 114 1 (.slice a11 n2 c11) n2 us11, rowP 3 1 (.slice a8 (nw + 1) c8) (nw + 1) (intC wy ++ [.int .i64 (j : Int)]), blkP bj 3 #[.int .i64 (j : Int)], rowP 114 1 (.slice ao n1 co) n1 us] ++ ([blkP b4 33 #[.bool kd.lf, .bool kd.tg, .slice kp1 kd.ps.length kp2, .slice kp3 kd.ks.length kp4, .slice kp5 kd.kids.length kp6]] ++ [blkP b1 33 #[.bool lf, .bool tg, .slice ap ps.length cp, .slice ak ks.length ck, .slice (some g1) kids.length cc]])) := H9
        have E15HH5 := Lib.hid H9
        clear H9 E14HH4
        refine hK9.out _ _ (fun _ => ⟨_, E15HH5⟩) ?_
        clear hK9 K9
        try simp only [Act.put, List.getElem_toArray, List.getElem_cons_zero, List.getElem_cons_succ, List.setIfInBounds_toArray, List.set_cons_zero, List.set_cons_succ]
        refine AnyK.one (i := 12) (by kernel_rfl) rfl (fun K9 hK9 => ?_)
        refine step_append_typed _ (by rfl) (.tmp 51) (.tmp 62) 96 (by rfl) 114 i0 (.slice none 0 0) 1 24 Try.underlying96 I0.out.1 I0.out.2.1 I0.out.2.2.1 I0.out.2.2.2 rfl (by decide) (.slice ao n1 co) n1 us (by simp [Act.eval]) (E15HH5.out.row 3 rfl) (.slice a11 n2 c11) n2 us11 (by simp [Act.eval]) (E15HH5.out.row 0 (t := 114) (sz := 1) (n := n2) (v := .slice a11 n2 c11) (us := us11) rfl).rdv HO11.out HLM.out.1 HLM.out.2 ?_
        intro a12 c12 w12 q12 grow12 hat12
        have H9 := E15HH5.out.appRow 3 (m := n2) rfl (Fr.refl _ _) q12 grow12 hat12
        clear q12 grow12 hat12
        have H9 : Heap w w12 ([rowP 114 1 (.slice a11 n2 c11) n2 us11, rowP 3 1 (.slice a8 (nw + 1) c8) (nw + 1) (intC wy ++ [.int .i64 (j : Int)]), blkP bj 3 #[.int .i64 (j : Int)], rowP 114 1 (.slice a12 (n1 + n2) c12) (n1 + n2) (us ++ us11)] ++ ([blkP b4 33 #[.bool kd.lf, .bool kd.tg, .slice kp1 kd.ps.length kp2, .slice kp3 kd.ks.length kp4, .slice kp5 kd.kids.length kp6]] ++ [blkP b1 33 #[.bool lf, .bool tg, .slice ap ps.length cp, .slice ak ks.length ck, .slice (some g1) kids.length cc]])) := H9
        have E16HH6 := Lib.hid H9
        clear H9 E15HH5
        refine hK9.out _ _ (fun h => absurd (by decide) h) ?_
        clear hK9 K9
        try simp only [Act.put, List.getElem_toArray, List.getElem_cons_zero, List.getElem_cons_succ, List.setIfInBounds_toArray, List.set_cons_zero, List.set_cons_succ]
        refine AnyK.phase (S' := fun _ => True) (ks' := []) (by kernel_rfl) ?_
        refine AnyK.take (i := 13) (v := ?_) rfl (by kernel_rfl) (by kernel_rfl) (by kernel_rfl) (by kernel_rfl) (fun _ _ _ h => h) (Or.inl ⟨by rfl, ?_⟩) (by exact trivial) ?_
        rotate_left
        focus
          intro w9 hSw
          try dsimp only at hSw
          go_simp
          try with_reducible rfl
        try simp only [Act.put, List.getElem_toArray, List.getElem_cons_zero, List.getElem_cons_succ, List.setIfInBounds_toArray, List.set_cons_zero, List.set_cons_succ]
        have H9 := E16HH6.out
        have H9 := Heap.mid (l := []) (m := [rowP 114 1 (.slice a11 n2 c11) n2 us11]) H9
        have H9 := Heap.mid (l := []) (m := [rowP 3 1 (.slice a8 (nw + 1) c8) (nw + 1) (intC wy ++ [.int .i64 (j : Int)])]) H9
        have H9 := Heap.mid (l := []) (m := [blkP bj 3 #[.int .i64 (j : Int)]]) H9
        have HX := Lib.hid (Heap.mid (l := [rowP 114 1 (.slice a12 (n1 + n2) c12) (n1 + n2) (us ++ us11)]) (m := [blkP b4 33 #[.bool kd.lf, .bool kd.tg, .slice kp1 kd.ps.length kp2, .slice kp3 kd.ks.length kp4, .slice kp5 kd.kids.length kp6]]) H9)
        clear H9 E16HH6
        refine AnyK.done (by kernel_rfl) ?_ _
        refine NoPanic.normal ?_
        go_wp2_with fail
        exact ⟨⟨j + 1, n1 + n2, a12, c12, us ++ us11, by go_num, by have := HLT.out; omega, rfl, hn12, Lib.hid ⟨HCN.out, HON.out.app HO11.out, HX.out⟩⟩, by have := HLT.out; simp [intOf]; omega⟩
    · obtain rfl : j = kids.length := by omega
      have HNF : Hid (n1 = N) := Lib.hid (by rw [List.take_length] at hcnt; rw [← hcnt]; exact HNE.out)
      clear hcnt
      go_wp2_with fail
      go_ret
      refine ⟨ao, co, us, ?_, HON.out, ?_⟩
      · rw [← HNF.out]; rfl
      · rw [← HNF.out]
        exact HH.out.first (l := [rowP 114 1 (.slice ao n1 co) n1 us])
end Go.Proofs.Ytkbnoceekileiaa
