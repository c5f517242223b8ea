/- Shape.All: a tree's pairs, from left to right: its contract. No condition but the bounds of size. -/
import Derived.Test.YtkbnoceekileiaaRdt
namespace Go.Proofs.Ytkbnoceekileiaa
open Go Go.RowKit
set_option linter.unusedVariables false
set_option linter.unusedSimpArgs false
set_option maxRecDepth 100000
theorem Heap.join {w0 w w' : World} {L : List Piece} {p : Piece} (h : Heap w0 w L) (h2 : Heap w w' [p]) : Heap w0 w' (p :: L) := by
  obtain ⟨S, hS, hk⟩ := h2.get 0 rfl
  exact Heap.swapF (h.push h2.fr hS hk)
theorem RdV.five {w : World} {a : Addr} {c n : Nat} {l : List (Sh × Sv)} (R : RdV w (.slice (some a) n c) n 5 (l.flatMap shC)) {i : Nat} {s : Sh} {v : Sv} (h : l[i]? = some (s, v)) (hi : i < n) :
    w.cell? (a.add (i * 5)) = some (.bool s.lf) ∧ w.cell? ⟨(a.add (i * 5)).block, (a.add (i * 5)).off + 1, none⟩ = some (.bool s.tg) ∧ w.cell? ⟨(a.add (i * 5)).block, (a.add (i * 5)).off + 2, none⟩ = some v.vp ∧ w.cell? ⟨(a.add (i * 5)).block, (a.add (i * 5)).off + 3, none⟩ = some v.vk ∧ w.cell? ⟨(a.add (i * 5)).block, (a.add (i * 5)).off + 4, none⟩ = some v.vc := by
  obtain ⟨a', e, _, hat⟩ := R.at (by omega)
  have e : a = a' := by simpa using e
  subst e
  have g := fun j (hj : j < 5) => fm_get (f := shC) (m := 5) shC_len l i j (s, v) h hj
  have h0 := hat (i * 5 + 0) _ (by rw [g 0 (by decide)]; rfl)
  have h1 := hat (i * 5 + 1) _ (by rw [g 1 (by decide)]; rfl)
  have h2 := hat (i * 5 + 2) _ (by rw [g 2 (by decide)]; rfl)
  have h3 := hat (i * 5 + 3) _ (by rw [g 3 (by decide)]; rfl)
  have h4 := hat (i * 5 + 4) _ (by rw [g 4 (by decide)]; rfl)
  rw [show i * 5 + 1 = i * 5 + (0 + 1) from rfl, add_fieldG] at h1
  rw [show i * 5 + 2 = i * 5 + (1 + 1) from rfl, add_fieldG] at h2
  rw [show i * 5 + 3 = i * 5 + (2 + 1) from rfl, add_fieldG] at h3
  rw [show i * 5 + 4 = i * 5 + (3 + 1) from rfl, add_fieldG] at h4
  exact ⟨h0, h1, h2, h3, h4⟩
theorem allShs_next {kids : List Sh} {j : Nat} {s : Sh} (h : kids[j]? = some s) : allShs (kids.take (j + 1)) = allShs (kids.take j) ++ allSh s := by
  rw [List.take_add_one, h]
  show allShs (kids.take j ++ [s]) = _
  rw [allShs_append, allShs_cons]
  simp [allShs]
theorem allShs_take_len (kids : List Sh) (j : Nat) : (allShs (kids.take j)).length ≤ (allShs kids).length := by
  have h := allShs_append (kids.take j) (kids.drop j)
  rw [List.take_append_drop] at h
  rw [h, List.length_append]
  omega
def allPost (w : World) (s : Sh) (e : Ending) (w' : World) : Prop := ∃ a c, e = .returned (.slice a (allSh s).length c) ∧ Heap w w' [rowP 77 2 (.slice a (allSh s).length c) (allSh s).length (pairC (allSh s))]
theorem ShIn.fr0 {w z : World} {S : Nat → Prop} {s : Sh} {v : Sv} (h : ShIn w S s v) (hf : Fr nob w z) : ShIn z S s v := ShIn.keep hf (fun _ _ x => x) s v h
set_option maxHeartbeats 200000000 in
theorem All_step (d : Nat) (IH : ∀ e, d = e + 1 → ∀ (w : World) (S : Nat → Prop) (s : Sh) (v : Sv) (_ : ShIn w S s v) (_ : dpSh s ≤ e) (_ : (allSh s).length ≤ 100000), Calls Try.prog 35 #[shV s v] w (allPost w s))
    (w : World) (S : Nat → Prop) (s : Sh) (v : Sv) (h : ShIn w S s v) (hdp : dpSh s ≤ d) (hlen : (allSh s).length ≤ 100000) : Calls Try.prog 35 #[shV s v] w (allPost w s) := by
  obtain ⟨ap, cp, ak, ck, ac, cc, rfl⟩ := h.form
  obtain ⟨lf, tg, ps, ks, kids⟩ := s
  have h' := h
  unfold ShIn at h'
  obtain ⟨r1, r2, cs, hcl, r3, r4⟩ := h'
  dsimp only [Sh.ps, Sh.ks, Sh.kids] at r1 r2 r3
  have hm1 := r3.1.short
  have hp1 := r1.1.short
  unfold maxLen at hm1 hp1
  have HIH := Lib.hid @IH
  have HR := Lib.hid (And.intro r1 (And.intro r3 (And.intro r4 (And.intro hcl (And.intro hdp hlen)))))
  have hpl : ps.length ≤ 100000 := by rw [allSh_mk, List.length_append] at hlen; omega
  have H1 := (Heap.start w).allocF 33 #[.bool lf, .bool tg, .slice ap ps.length cp, .slice ak ks.length ck, .slice ac kids.length cc]
  obtain ⟨b1, hb1⟩ : ∃ b, w.heap.size = b := ⟨_, rfl⟩
  obtain ⟨w1, hw1⟩ : ∃ z, w.alloc (.cells #[.bool lf, .bool tg, .slice ap ps.length cp, .slice ak ks.length ck, .slice ac kids.length cc] 33) = z := ⟨_, rfl⟩
  rw [hb1, hw1] at H1
  have H2 := H1.row0F 77 2
  have B1 := H1.blk 0 rfl
  have z2 : (w1.alloc (.cells #[] 77)).cell? ⟨b1, 2, none⟩ = some (.slice ap ps.length cp) := (H2.blk 1 (b := b1) (t := 33) (c := #[.bool lf, .bool tg, .slice ap ps.length cp, .slice ak ks.length ck, .slice ac kids.length cc]) rfl).cell 2
  have z4 := B1.cell 4
  have RR := Lib.hid (r1.1.fr H1.fr (fun _ _ _ x => x))
  have H2' := Lib.hid H2
  have HWW := Lib.hid (And.intro hb1 hw1)
  obtain ⟨i0, hi0, hz0, hz1, hz2⟩ := info_parts info_pair
  have I0 := Lib.hid (And.intro hi0 (And.intro hz0 (And.intro hz1 hz2)))
  have HL0 := Lib.hid (show 0 + ps.length ≤ maxLen ∧ (0 + ps.length) * 16 ≤ 140737488355328 by unfold maxLen; omega)
  clear h r1 r2 r3 r4 hcl IH H1 H2 B1 hb1 hw1 hi0 hz0 hz1 hz2 hdp hlen
  go_enter Try.func35, Try.ntmps35
  unfold shV
  dsimp only [Sh.lf, Sh.tg, Sh.ps, Sh.ks, Sh.kids]
  go_upto_region 1 with fail
  rw [HWW.out.1, HWW.out.2]
  go_wp2_with (at_builtin; refine wpList_append_typed _ rfl _ _ _ (by rfl) 77 i0 (.agg #[.int .i64 0, .int .i64 0]) 2 16 Try.underlying30 I0.out.1 I0.out.2.1 I0.out.2.2.1 I0.out.2.2.2 rfl (by decide) (.slice (some ⟨w1.heap.size, 0, none⟩) 0 0) 0 [] (by rfl) (QRow.none0 _ _) (.slice ap ps.length cp) ps.length (pairC ps) (by rfl) (RR.out.fr (S := nob) (by repeat (first | exact Fr.refl _ _ | apply Fr.drew | apply Fr.alloc)) (fun _ _ _ x => x)) (pairC_one ps) HL0.out.1 HL0.out.2 ?_)
  intro a3 c3 w3 q3 grow3 hat3
  have G3 := H2'.out.appRow 0 (m := ps.length) rfl (Fr.refl _ _) q3 grow3 (fun g hg => by have h9 := hat3 g hg; simpa using h9)
  have HH : Hid (Heap w w3 [rowP 77 2 (.slice a3 (ps).length c3) (ps).length (pairC (ps)), blkP b1 33 #[.bool lf, .bool tg, .slice ap ps.length cp, .slice ak ks.length ck, .slice ac kids.length cc]]) := Lib.hid G3
  have z4 : World.cell? w3 ⟨b1, 4, none⟩ = some (.slice ac kids.length cc) := (HH.out.blk 1 (b := b1) (t := 33) (c := #[.bool lf, .bool tg, .slice ap ps.length cp, .slice ak ks.length ck, .slice ac kids.length cc]) rfl).cell 4
  clear G3 q3 grow3 hat3 H2' RR HWW z2
  go_wp2_with fail
  have HH : Hid (Heap w w3 [rowP 77 2 (.slice a3 ((ps ++ allShs (kids.take 0))).length c3) ((ps ++ allShs (kids.take 0))).length (pairC ((ps ++ allShs (kids.take 0)))), blkP b1 33 #[.bool lf, .bool tg, .slice ap ps.length cp, .slice ak ks.length ck, .slice ac kids.length cc]]) := Lib.hid (by
    have e : allShs (kids.take 0) = [] := by simp [allShs]
    rw [e, List.append_nil]
    exact HH.out)
  have he0 := Lib.hid (show ((ps ++ allShs (kids.take 0))).length = ps.length by simp [allShs])
  clear z4
  go_loopw [3, 13] (fun s3 q wr => ∃ (j n1 : Nat) (a : Option Addr) (c : Nat), q = .int .i64 (j : Nat) ∧ j ≤ kids.length ∧ s3 = .slice a n1 c ∧ Hid (((ps ++ allShs (kids.take j))).length = n1 ∧ Heap w wr [rowP 77 2 (.slice a ((ps ++ allShs (kids.take j))).length c) ((ps ++ allShs (kids.take j))).length (pairC ((ps ++ allShs (kids.take j)))), blkP b1 33 #[.bool lf, .bool tg, .slice ap ps.length cp, .slice ak ks.length ck, .slice ac kids.length cc]])) (fun _ q _ => kids.length - (intOf q).toNat)
  case atStart => exact ⟨0, ps.length, a3, c3, rfl, Nat.zero_le _, rfl, Lib.hid ⟨he0.out, HH.out⟩⟩
  case round =>
  clear HH he0
  obtain ⟨j, n1, a, c, rfl, hj, rfl, HQ⟩ := hrel
  obtain ⟨hn1, H0⟩ := HQ.out
  have HH := Lib.hid H0
  clear HQ H0
  by_cases hlt : j < kids.length
  · have HLT := Lib.hid hlt
    obtain ⟨kd, hkd⟩ : ∃ x, kids[j]? = some x := ⟨_, List.getElem?_eq_getElem hlt⟩
    obtain ⟨cv, hcv⟩ : ∃ x, cs[j]? = some x := ⟨_, List.getElem?_eq_getElem (by rw [HR.out.2.2.2.1]; exact hlt)⟩
    have hS0 := ShsIn.get kids cs j kd cv HR.out.2.2.1 hkd hcv
    obtain ⟨kp1, kp2, kp3, kp4, kp5, kp6, rfl⟩ := hS0.form
    have hzip : (kids.zip cs)[j]? = some (kd, ⟨.slice kp1 kd.ps.length kp2, .slice kp3 kd.ks.length kp4, .slice kp5 kd.kids.length kp6⟩) := by rw [List.getElem?_zip_eq_some]; exact ⟨hkd, hcv⟩
    have R3 := HR.out.2.1.1.fr HH.out.fr (fun _ _ _ x => x)
    obtain ⟨g1, rfl, _, _⟩ := R3.at (by omega)
    obtain ⟨k0, k1, k2, k3, k4⟩ := R3.five hzip hlt
    dsimp only at k2 k3 k4
    obtain ⟨e, he, hde⟩ := dpSh_kid HR.out.2.2.2.2.1 hkd
    have hsum : ((ps ++ allShs (kids.take j))).length + (allSh kd).length ≤ 100000 := by
      have h1 := HR.out.2.2.2.2.2
      rw [allSh_mk, List.length_append] at h1
      have h2 := allShs_take_len kids (j + 1)
      rw [allShs_next hkd, List.length_append] at h2
      rw [List.length_append]
      omega
    have H4 := HH.out.allocF 33 #[.bool kd.lf, .bool kd.tg, .slice kp1 kd.ps.length kp2, .slice kp3 kd.ks.length kp4, .slice kp5 kd.kids.length kp6]
    obtain ⟨b4, hb4⟩ : ∃ b, wr.heap.size = b := ⟨_, rfl⟩
    obtain ⟨w4, hw4⟩ : ∃ z, wr.alloc (.cells #[.bool kd.lf, .bool kd.tg, .slice kp1 kd.ps.length kp2, .slice kp3 kd.ks.length kp4, .slice kp5 kd.kids.length kp6] 33) = z := ⟨_, rfl⟩
    rw [hb4, hw4] at H4
    have B4 := H4.blk 0 rfl
    have y0 := B4.cell 0
    have y1 := B4.cell 1
    have y2 := B4.cell 2
    have y3 := B4.cell 3
    have y4 := B4.cell 4
    have CA := HIH.out e he w4 S kd _ (hS0.fr0 H4.fr) hde (by omega)
    have CA := Lib.hid CA
    have H4' := Lib.hid H4
    have HWW := Lib.hid (And.intro hb4 hw4)
    have HKD := Lib.hid hkd
    obtain ⟨n2, hn2⟩ : ∃ n, (allSh kd).length = n := ⟨_, rfl⟩
    have HNN := Lib.hid (And.intro hn1 hn2)
    rw [hn1] at H4'
    rw [hn1, hn2] at hsum
    have HLL := Lib.hid (show n1 + n2 ≤ maxLen ∧ (n1 + n2) * 16 ≤ 140737488355328 by unfold maxLen; omega)
    clear hkd hcv hS0 hzip R3 he hde H4 B4 HH hb4 hw4 hn1 hn2 hsum hlt
    go_upto_region 5 with fail
    rw [HWW.out.1, HWW.out.2]
    clear HWW k0 k1 k2 k3 k4
    go_wp2_with fail
    refine CA.out.mono ?_
    rintro e5 w5 ⟨a5, c5, rfl, H5⟩
    rw [HNN.out.2] at H5
    rw [HNN.out.2]
    have H6 := Lib.hid (H4'.out.join H5)
    have QA := Lib.hid (H6.out.row 2 (t := 77) (sz := 2) (n := n1) (v := .slice a n1 c) (us := pairC ((ps ++ allShs (kids.take j)))) rfl)
    have QB := Lib.hid (H6.out.row 0 (t := 77) (sz := 2) (n := n2) (v := .slice a5 n2 c5) (us := pairC (allSh kd)) rfl).rdv
    clear CA H4' H5 y0 y1 y2 y3 y4
    go_wp2_with (at_builtin; refine wpList_append_typed _ rfl _ _ _ (by rfl) 77 i0 (.agg #[.int .i64 0, .int .i64 0]) 2 16 Try.underlying30 I0.out.1 I0.out.2.1 I0.out.2.2.1 I0.out.2.2.2 rfl (by decide) (.slice a n1 c) n1 (pairC ((ps ++ allShs (kids.take j)))) (by rfl) QA.out (.slice a5 n2 c5) n2 (pairC (allSh kd)) (by rfl) QB.out (pairC_one _) HLL.out.1 HLL.out.2 ?_)
    intro a6 c6 w6 q6 grow6 hat6
    have G6 := H6.out.appRow 2 (m := n2) rfl (Fr.refl _ _) q6 grow6 (fun g hg => by have h9 := hat6 g hg; simpa using h9)
    have hnx : ((ps ++ allShs (kids.take (j + 1)))).length = n1 + n2 := by rw [allShs_next HKD.out, ← List.append_assoc, List.length_append, HNN.out.1, HNN.out.2]
    have HX : Hid (Heap w w6 [rowP 77 2 (.slice a6 ((ps ++ allShs (kids.take (j + 1)))).length c6) ((ps ++ allShs (kids.take (j + 1)))).length (pairC ((ps ++ allShs (kids.take (j + 1))))), blkP b1 33 #[.bool lf, .bool tg, .slice ap ps.length cp, .slice ak ks.length ck, .slice (some g1) kids.length cc]]) := Lib.hid (by
      rw [hnx, allShs_next HKD.out, ← List.append_assoc, show pairC ((ps ++ allShs (kids.take j)) ++ allSh kd) = pairC ((ps ++ allShs (kids.take j))) ++ pairC (allSh kd) by simp [pairC]]
      exact G6.tailP.tailP)
    have HNX := Lib.hid hnx
    clear G6 q6 grow6 hat6 QA QB H6 hnx
    go_wp2_with fail
    exact ⟨⟨j + 1, n1 + n2, a6, c6, by go_num, by have := HLT.out; omega, rfl, Lib.hid ⟨HNX.out, HX.out⟩⟩, by have := HLT.out; simp [intOf]; omega⟩
  · obtain rfl : j = kids.length := by omega
    have HX := HH.out
    rw [List.take_length] at HX hn1
    have HX := Lib.hid HX
    have HN1 := Lib.hid hn1
    clear HH hn1
    go_wp2_with fail
    go_ret
    refine ⟨a, c, by rw [allSh_mk, HN1.out]; rfl, ?_⟩
    · rw [allSh_mk]
      exact HX.out.first (l := [rowP 77 2 (.slice a (ps ++ allShs kids).length c) (ps ++ allShs kids).length (pairC (ps ++ allShs kids))])
theorem All_h : ∀ (d : Nat) (w : World) (S : Nat → Prop) (s : Sh) (v : Sv) (_ : ShIn w S s v) (_ : dpSh s ≤ d) (_ : (allSh s).length ≤ 100000), Calls Try.prog 35 #[shV s v] w (allPost w s)
  | 0, w, S, s, v, h, hd, hl => All_step 0 (fun e he => by omega) w S s v h hd hl
  | d + 1, w, S, s, v, h, hd, hl => All_step (d + 1) (fun e he => by
      obtain rfl : d = e := by omega
      exact All_h d) w S s v h hd hl
end Go.Proofs.Ytkbnoceekileiaa
