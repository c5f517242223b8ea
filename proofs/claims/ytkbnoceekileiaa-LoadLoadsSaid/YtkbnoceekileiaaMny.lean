/- Shape.Many: how many nodes a tree has: its contract. No condition but the bounds of size. -/
import Derived.Test.YtkbnoceekileiaaAll
import Derived.Test.YtkbnoceekileiaaLdb
namespace Go.Proofs.Ytkbnoceekileiaa
open Go Go.RowKit
set_option linter.unusedVariables false
set_option linter.unusedSimpArgs false
set_option maxRecDepth 100000
mutual
/-- How many nodes a tree has. -/
def manySh : Sh → Nat
  | .mk _ _ _ _ kids => 1 + manyShs kids
def manyShs : List Sh → Nat
  | [] => 0
  | s :: l => manySh s + manyShs l
end
theorem manySh_mk (lf tg : Bool) (ps : List (Int × Int)) (ks : List Int) (kids : List Sh) : manySh (.mk lf tg ps ks kids) = 1 + manyShs kids := by rw [manySh]
theorem manyShs_append : ∀ (a b : List Sh), manyShs (a ++ b) = manyShs a + manyShs b
  | [], b => by simp [manyShs]
  | s :: a, b => by rw [List.cons_append, manyShs, manyShs, manyShs_append a b]; omega
theorem manyShs_next {kids : List Sh} {j : Nat} {s : Sh} (h : kids[j]? = some s) : manyShs (kids.take (j + 1)) = manyShs (kids.take j) + manySh s := by
  rw [List.take_add_one, h]
  show manyShs (kids.take j ++ [s]) = _
  rw [manyShs_append, manyShs, manyShs]
  omega
theorem manyShs_take (kids : List Sh) (j : Nat) : manyShs (kids.take j) ≤ manyShs kids := by
  have h := manyShs_append (kids.take j) (kids.drop j)
  rw [List.take_append_drop] at h
  omega
def manyPost (w : World) (s : Sh) (e : Ending) (w' : World) : Prop := e = .returned (.int .i64 (manySh s : Nat)) ∧ Fr nob w w'
set_option maxHeartbeats 200000000 in
theorem Many_step (d : Nat) (IH : ∀ e, d = e + 1 → ∀ (w : World) (S : Nat → Prop) (s : Sh) (v : Sv) (_ : ShIn w S s v) (_ : dpSh s ≤ e) (_ : manySh s ≤ 1000000), Calls Try.prog 24 #[shV s v] w (manyPost w s))
    (w : World) (S : Nat → Prop) (s : Sh) (v : Sv) (h : ShIn w S s v) (hdp : dpSh s ≤ d) (hlen : manySh s ≤ 1000000) : Calls Try.prog 24 #[shV s v] w (manyPost w s) := by
  obtain ⟨ap, cp, ak, ck, ac, cc, rfl⟩ := h.form
  obtain ⟨lf, tg, ps, ks, kids⟩ := s
  have h' := h
  unfold ShIn at h'
  obtain ⟨r1, r2, cs, hcl, r3, r4⟩ := h'
  dsimp only [Sh.ps, Sh.ks, Sh.kids] at r1 r2 r3
  have hm1 := r3.1.short
  unfold maxLen at hm1
  have HIH := Lib.hid @IH
  have HR := Lib.hid (And.intro r3 (And.intro r4 (And.intro hcl (And.intro hdp hlen))))
  have H1 := (Heap.start w).allocF 33 #[.bool lf, .bool tg, .slice ap ps.length cp, .slice ak ks.length ck, .slice ac kids.length cc]
  obtain ⟨b1, hb1⟩ : ∃ b, w.heap.size = b := ⟨_, rfl⟩
  obtain ⟨w1, hw1⟩ : ∃ z, w.alloc (.cells #[.bool lf, .bool tg, .slice ap ps.length cp, .slice ak ks.length ck, .slice ac kids.length cc] 33) = z := ⟨_, rfl⟩
  rw [hb1, hw1] at H1
  have z4 := (H1.blk 0 rfl).cell 4
  have HH := Lib.hid H1
  have HWW := Lib.hid (And.intro hb1 hw1)
  clear h r1 r2 r3 r4 hcl IH H1 hb1 hw1 hdp hlen
  go_enter Try.func24, Try.ntmps24
  unfold shV
  dsimp only [Sh.lf, Sh.tg, Sh.ps, Sh.ks, Sh.kids]
  go_upto_region 1 with fail
  rw [HWW.out.1, HWW.out.2]
  clear HWW
  go_wp2_with fail
  clear z4
  go_loopw [3, 9] (fun s3 q wr => ∃ (j n1 : Nat), q = .int .i64 (j : Nat) ∧ j ≤ kids.length ∧ s3 = .int .i64 (n1 : Nat) ∧ n1 ≤ 1000000 ∧ Hid (1 + manyShs (kids.take j) = n1 ∧ Heap w wr [blkP b1 33 #[.bool lf, .bool tg, .slice ap ps.length cp, .slice ak ks.length ck, .slice ac kids.length cc]])) (fun _ q _ => kids.length - (intOf q).toNat)
  case atStart => exact ⟨0, 1, rfl, Nat.zero_le _, rfl, by decide, Lib.hid ⟨by simp [manyShs], HH.out⟩⟩
  case round =>
  clear HH
  obtain ⟨j, n1, rfl, hj, rfl, hn, HQ⟩ := hrel
  obtain ⟨hn1, H0⟩ := HQ.out
  have HH := Lib.hid H0
  clear HQ H0
  by_cases hlt : j < kids.length
  · have HLT := Lib.hid hlt
    obtain ⟨kd, hkd⟩ : ∃ x, kids[j]? = some x := ⟨_, List.getElem?_eq_getElem hlt⟩
    obtain ⟨cv, hcv⟩ : ∃ x, cs[j]? = some x := ⟨_, List.getElem?_eq_getElem (by rw [HR.out.2.2.1]; exact hlt)⟩
    have hS0 := ShsIn.get kids cs j kd cv HR.out.2.1 hkd hcv
    obtain ⟨kp1, kp2, kp3, kp4, kp5, kp6, rfl⟩ := hS0.form
    have hzip : (kids.zip cs)[j]? = some (kd, ⟨.slice kp1 kd.ps.length kp2, .slice kp3 kd.ks.length kp4, .slice kp5 kd.kids.length kp6⟩) := by rw [List.getElem?_zip_eq_some]; exact ⟨hkd, hcv⟩
    have R3 := HR.out.1.1.fr HH.out.fr (fun _ _ _ x => x)
    obtain ⟨g1, rfl, _, _⟩ := R3.at (by omega)
    obtain ⟨k0, k1, k2, k3, k4⟩ := R3.five hzip hlt
    dsimp only at k2 k3 k4
    obtain ⟨e, he, hde⟩ := dpSh_kid HR.out.2.2.2.1 hkd
    obtain ⟨m1, hm9⟩ : ∃ x, manySh kd = x := ⟨_, rfl⟩
    have hsum : 1 + manyShs (kids.take (j + 1)) = n1 + m1 ∧ n1 + m1 ≤ 1000000 := by
      have h1 := HR.out.2.2.2.2
      rw [manySh_mk] at h1
      have h2 := manyShs_take kids (j + 1)
      rw [manyShs_next hkd] at h2 ⊢
      omega
    have H4 := HH.out.allocF 33 #[.bool kd.lf, .bool kd.tg, .slice kp1 kd.ps.length kp2, .slice kp3 kd.ks.length kp4, .slice kp5 kd.kids.length kp6]
    obtain ⟨b4, hb4⟩ : ∃ b, wr.heap.size = b := ⟨_, rfl⟩
    obtain ⟨w4, hw4⟩ : ∃ z, wr.alloc (.cells #[.bool kd.lf, .bool kd.tg, .slice kp1 kd.ps.length kp2, .slice kp3 kd.ks.length kp4, .slice kp5 kd.kids.length kp6] 33) = z := ⟨_, rfl⟩
    rw [hb4, hw4] at H4
    have B4 := H4.blk 0 rfl
    have y0 := B4.cell 0
    have y1 := B4.cell 1
    have y2 := B4.cell 2
    have y3 := B4.cell 3
    have y4 := B4.cell 4
    have CA := HIH.out e he w4 S kd _ (hS0.fr0 H4.fr) hde (by have := hsum.2; omega)
    have CA := Lib.hid CA
    have H4' := Lib.hid H4
    have HWW := Lib.hid (And.intro hb4 hw4)
    have HSM := Lib.hid hsum.1
    have HM9 := Lib.hid hm9
    have hs2 := hsum.2
    clear hkd hcv hS0 hzip R3 he hde H4 B4 HH hb4 hw4 hn1 hsum hlt hm9
    go_upto_region 5 with fail
    rw [HWW.out.1, HWW.out.2]
    clear HWW k0 k1 k2 k3 k4
    go_wp2_with fail
    refine CA.out.mono ?_
    rintro e5 w5 ⟨rfl, F5⟩
    rw [HM9.out]
    have HX := Lib.hid (H4'.out.go F5).tailP
    clear CA H4' F5 y0 y1 y2 y3 y4
    go_wp2_with fail
    exact ⟨⟨j + 1, n1 + m1, by go_num, by have := HLT.out; omega, by go_num, hs2, Lib.hid ⟨HSM.out, HX.out⟩⟩, by have := HLT.out; simp [intOf]; omega⟩
  · obtain rfl : j = kids.length := by omega
    have HN1 : Hid (manySh (.mk lf tg ps ks kids) = n1) := Lib.hid (by
      rw [List.take_length] at hn1
      rw [manySh_mk]
      exact hn1)
    clear hn1
    go_wp2_with fail
    go_ret
    refine ⟨?_, HH.out.fr⟩
    rw [HN1.out]
    rfl
theorem Many_h : ∀ (d : Nat) (w : World) (S : Nat → Prop) (s : Sh) (v : Sv) (_ : ShIn w S s v) (_ : dpSh s ≤ d) (_ : manySh s ≤ 1000000), Calls Try.prog 24 #[shV s v] w (manyPost w s)
  | 0, w, S, s, v, h, hd, hl => Many_step 0 (fun e he => by omega) w S s v h hd hl
  | d + 1, w, S, s, v, h, hd, hl => Many_step (d + 1) (fun e he => by
      obtain rfl : d = e := by omega
      exact Many_h d) w S s v h hd hl
/-- As many as load.Nodes tells. -/
theorem many_leaf : ∀ (ps : List Nat) (l : List (Int × Int)), manyShs (leafShs ps l) = ps.length
  | [], l => by rw [leafShs, manyShs]; rfl
  | k :: t, l => by rw [leafShs, manyShs, manySh, manyShs, many_leaf t]; simp; omega
theorem many_up : ∀ (ps : List Nat) (row : List Sh) (fs : List Int), row.length ≤ ps.sum → manyShs (upShs ps row fs) = ps.length + manyShs row
  | [], row, fs, h => by
    have : row = [] := List.eq_nil_of_length_eq_zero (by simpa using h)
    subst this
    rw [upShs, manyShs]; rfl
  | k :: t, row, fs, h => by
    simp only [List.sum_cons] at h
    have h1 := many_up t (row.drop k) (fs.drop k) (by rw [List.length_drop]; omega)
    have h2 := manyShs_append (row.take k) (row.drop k)
    rw [List.take_append_drop] at h2
    rw [upShs, manyShs, manySh, h1, h2, List.length_cons]
    omega
theorem many_evenUp {b : Nat} : ∀ (f : Nat) (row : List Sh) (fs : List Int), manyShs (evenUp b f row fs) = manyShs row + nodesUp b f row.length
  | 0, row, fs => by rw [evenUp, nodesUp]; rfl
  | f + 1, row, fs => by
    rw [evenUp, nodesUp]
    split
    · rfl
    · rw [many_evenUp f, many_up _ _ _ (by rw [partsN_sum]; exact Nat.le_refl _), upShs_len, partsN_len]
      omega
theorem many_even {b : Nat} (hb : 2 ≤ b) (l : List (Int × Int)) : manySh (evenSh b l) = nodesN l.length b := by
  unfold evenSh nodesN
  split
  · rename_i h
    subst h
    unfold nilSh
    rw [manySh, manyShs]
    rfl
  · rename_i h
    have hl : 1 ≤ l.length := by
      cases l with
      | nil => exact absurd rfl h
      | cons a t => simp
    rw [if_neg (by omega)]
    have h0 := partK_le (k := l.length) (b := b) (by omega) hl
    have h1 := evenUp_one hb l.length (leafShs (partsN l.length b) l) (leafKeys (partsN l.length b) l) (by rw [leafShs_len, partsN_len]; exact partK_pos _ _) (by rw [leafShs_len, partsN_len]; omega)
    have h2 := many_evenUp (b := b) l.length (leafShs (partsN l.length b) l) (leafKeys (partsN l.length b) l)
    rw [many_leaf, leafShs_len, partsN_len, nodesUp_fuel hb l.length (partK l.length b) (partK l.length b) (by omega) (by omega)] at h2
    match hq : evenUp b l.length (leafShs (partsN l.length b) l) (leafKeys (partsN l.length b) l), h1 with
    | [s], _ =>
      rw [hq, manyShs, manyShs] at h2
      show manySh s = _
      omega
end Go.Proofs.Ytkbnoceekileiaa
