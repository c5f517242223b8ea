/- boscagelaw11.placed: do keys stand in their places: its contract. No condition but the bounds of size. -/
import Derived.Test.YtkbnoceekileiaaLvl
import Derived.Test.YtkbnoceekileiaaUp
import Derived.Deep.DeepCutAuto
import Derived.Deep.CutRange
namespace Go.Proofs.Ytkbnoceekileiaa
open Go Go.RowKit
set_option linter.unusedVariables false
set_option linter.unusedSimpArgs false
set_option maxRecDepth 100000
/-- Is the key at i in its place: from a border on, below another one, above the one ahead of it? -/
def okAt (l : List Int) (f1 : Bool) (f2 : Int) (t1 : Bool) (t2 : Int) (i : Nat) : Bool := !((f1 && decide (l.getD i 0 < f2)) || (t1 && decide (t2 ≤ l.getD i 0)) || (decide (0 < i) && decide (l.getD i 0 ≤ l.getD (i - 1) 0)))
def okKeys (l : List Int) (f1 : Bool) (f2 : Int) (t1 : Bool) (t2 : Int) : Bool := (List.range l.length).all (okAt l f1 f2 t1 t2)
def okForm (lf : Bool) (n k : Nat) : Bool := (lf == (k == 0)) && (lf || n + 1 == k)
mutual
/-- Do keys stand in their places? -/
def placedP : Sh → Bool → Int → Bool → Int → Bool
  | .mk lf _ ps ks kids, f1, f2, t1, t2 => okKeys (ks ++ ps.map (·.1)) f1 f2 t1 t2 && okForm lf ks.length kids.length && placedsP ks kids 0 f1 f2 t1 t2
def placedsP (ks : List Int) : List Sh → Nat → Bool → Int → Bool → Int → Bool
  | [], _, _, _, _, _ => true
  | s :: l, i, f1, f2, t1, t2 => placedP s (if 0 < i then true else f1) (if 0 < i then ks.getD (i - 1) 0 else f2) (if i < ks.length then true else t1) (if i < ks.length then ks.getD i 0 else t2) && placedsP ks l (i + 1) f1 f2 t1 t2
end
mutual
/-- No node has too many pairs or keys. -/
def SzSh (N : Nat) : Sh → Prop
  | .mk _ _ ps ks kids => ps.length ≤ N ∧ ks.length ≤ N ∧ SzShs N kids
def SzShs (N : Nat) : List Sh → Prop
  | [] => True
  | s :: l => SzSh N s ∧ SzShs N l
end
theorem SzSh.mk' {N : Nat} {lf tg : Bool} {ps : List (Int × Int)} {ks : List Int} {kids : List Sh} (h : SzSh N (.mk lf tg ps ks kids)) : ps.length ≤ N ∧ ks.length ≤ N ∧ SzShs N kids := by rwa [SzSh] at h
theorem SzShs.at {N : Nat} : ∀ {l : List Sh} {i : Nat} {s : Sh}, SzShs N l → l[i]? = some s → SzSh N s
  | [], i, s, _, h => by simp at h
  | x :: l, 0, s, h, h1 => by
    rw [SzShs] at h
    simp at h1
    subst h1
    exact h.1
  | x :: l, i + 1, s, h, h1 => by
    rw [SzShs] at h
    exact SzShs.at h.2 (by simpa using h1)
mutual
theorem InAr.sz {ar : Ar} {N : Nat} (hok : OkN ar N) : ∀ (s : Sh) (r : Int), InAr ar s r → SzSh 100000 s
  | .mk lf tg ps ks kids, r, h => by
    obtain ⟨p, inn, wys, _, _, _, _, _, hs, h1, h2, _⟩ := h.look hok
    rw [SzSh]
    exact ⟨h1, h2, InArs.sz hok kids _ hs⟩
theorem InArs.sz {ar : Ar} {N : Nat} (hok : OkN ar N) : ∀ (l : List Sh) (rs : List Int), InArs ar l rs → SzShs 100000 l
  | [], _, _ => by rw [SzShs]; trivial
  | s :: l, r :: rs, h => by
    unfold InArs at h
    rw [SzShs]
    exact ⟨InAr.sz hok s r h.1, InArs.sz hok l rs h.2⟩
  | _ :: _, [], h => by unfold InArs at h; exact h.elim
end
theorem placedP_mk (lf tg : Bool) (ps : List (Int × Int)) (ks : List Int) (kids : List Sh) (f1 : Bool) (f2 : Int) (t1 : Bool) (t2 : Int) : placedP (.mk lf tg ps ks kids) f1 f2 t1 t2 = (okKeys (ks ++ ps.map (·.1)) f1 f2 t1 t2 && okForm lf ks.length kids.length && placedsP ks kids 0 f1 f2 t1 t2) := by rw [placedP]
theorem placedsP_cons (ks : List Int) (s : Sh) (l : List Sh) (i : Nat) (f1 : Bool) (f2 : Int) (t1 : Bool) (t2 : Int) : placedsP ks (s :: l) i f1 f2 t1 t2 = (placedP s (if 0 < i then true else f1) (if 0 < i then ks.getD (i - 1) 0 else f2) (if i < ks.length then true else t1) (if i < ks.length then ks.getD i 0 else t2) && placedsP ks l (i + 1) f1 f2 t1 t2) := by rw [placedsP]
def bdV (x1 : Bool) (x2 : Int) : Value := .agg #[.bool x1, .int .i64 x2]
def plcPost (w : World) (b : Bool) (e : Ending) (w' : World) : Prop := e = .returned (.bool b) ∧ Fr nob w w'
set_option maxHeartbeats 1000000000 in
theorem placed_step (d : Nat) (hd : d ≤ 1000) (IH : ∀ e, d = e + 1 → ∀ (w : World) (S : Nat → Prop) (s : Sh) (v : Sv) (f1 : Bool) (f2 : Int) (t1 : Bool) (t2 : Int) (_ : ShIn w S s v) (_ : dpSh s ≤ e) (_ : SzSh 100000 s), Calls Try.prog 47 #[shV s v, bdV f1 f2, bdV t1 t2] w (plcPost w (placedP s f1 f2 t1 t2)))
    (w : World) (S : Nat → Prop) (s : Sh) (v : Sv) (f1 : Bool) (f2 : Int) (t1 : Bool) (t2 : Int) (h : ShIn w S s v) (hdp : dpSh s ≤ d) (hsz : SzSh 100000 s) : Calls Try.prog 47 #[shV s v, bdV f1 f2, bdV t1 t2] w (plcPost w (placedP s f1 f2 t1 t2)) := by
  obtain ⟨ap, cp, ak, ck, ac, cc, rfl⟩ := h.form
  obtain ⟨lf, tg, ps, ks, kids⟩ := s
  have h' := h
  unfold ShIn at h'
  obtain ⟨r1, r2, cs, hcl, r3, r4⟩ := h'
  dsimp only [Sh.ps, Sh.ks, Sh.kids] at r1 r2 r3
  have hm1 := r3.1.short
  have hm2 := r1.1.short
  have hm3 := r2.1.short
  unfold maxLen at hm1 hm2 hm3
  have HIH := Lib.hid @IH
  have HR := Lib.hid (And.intro r3 (And.intro r4 (And.intro hcl hdp)))
  have HP := Lib.hid (And.intro r1 r2)
  have H1 := (((Heap.start w).allocF 33 #[.bool lf, .bool tg, .slice ap ps.length cp, .slice ak ks.length ck, .slice ac kids.length cc]).allocF 92 #[.bool f1, .int .i64 f2]).allocF 92 #[.bool t1, .int .i64 t2]
  obtain ⟨b1, hb1⟩ : ∃ b, w.heap.size = b := ⟨_, rfl⟩
  obtain ⟨w1, hw1⟩ : ∃ z, w.alloc (.cells #[.bool lf, .bool tg, .slice ap ps.length cp, .slice ak ks.length ck, .slice ac kids.length cc] 33) = z := ⟨_, rfl⟩
  rw [hb1, hw1] at H1
  obtain ⟨b2, hb2⟩ : ∃ b, w1.heap.size = b := ⟨_, rfl⟩
  obtain ⟨w2, hw2⟩ : ∃ z, w1.alloc (.cells #[.bool f1, .int .i64 f2] 92) = z := ⟨_, rfl⟩
  rw [hb2, hw2] at H1
  obtain ⟨b3, hb3⟩ : ∃ b, w2.heap.size = b := ⟨_, rfl⟩
  obtain ⟨w3, hw3⟩ : ∃ z, w2.alloc (.cells #[.bool t1, .int .i64 t2] 92) = z := ⟨_, rfl⟩
  rw [hb3, hw3] at H1
  have hb12 : b1 + 1 = b2 := by rw [← hb2, ← hw1, ← hb1]; simp
  have hb13 : b2 + 1 = b3 := by
    have h9 : w2.heap.size = w1.heap.size + 1 := by rw [← hw2]; simp
    omega
  have BXS := Lib.hid (fun z (l : List Piece) (hz : Heap w z (l ++ [blkP b3 92 #[.bool t1, .int .i64 t2], blkP b2 92 #[.bool f1, .int .i64 f2], blkP b1 33 #[.bool lf, .bool tg, .slice ap ps.length cp, .slice ak ks.length ck, .slice ac kids.length cc]])) => And.intro ((Heap.swapF hz).blk 2 (b := b1) (t := 33) (c := #[.bool lf, .bool tg, .slice ap ps.length cp, .slice ak ks.length ck, .slice ac kids.length cc]) rfl) (And.intro ((Heap.swapF hz).blk 1 (b := b2) (t := 92) (c := #[.bool f1, .int .i64 f2]) rfl) ((Heap.swapF hz).blk 0 (b := b3) (t := 92) (c := #[.bool t1, .int .i64 t2]) rfl)))
  have X1 := (BXS.out _ [] H1).1
  have x3 := X1.cell 3
  have HWW := Lib.hid (And.intro hb1 (And.intro hw1 (And.intro hb12 (And.intro hw2 (And.intro hb13 hw3)))))
  have HH := Lib.hid H1
  obtain ⟨hz1, hz2, hz3⟩ := hsz.mk'
  have HSZ := Lib.hid hz3
  have hsz := And.intro hz2 hz1
  clear hz1 hz2 hz3
  have RK := Lib.hid (HP.out.2.1.fr H1.fr (fun _ _ _ x => x))
  have H2 := H1.row0F 2 1
  have x3 : (w3.alloc (.cells #[] 2)).cell? ⟨b1, 3, none⟩ = some (.slice ak ks.length ck) := (H2.blk 3 (b := b1) (t := 33) (c := #[.bool lf, .bool tg, .slice ap ps.length cp, .slice ak ks.length ck, .slice ac kids.length cc]) rfl).cell 3
  have H2' := Lib.hid H2
  obtain ⟨i0, hi0, hz0, hz1, hz2⟩ := info_parts info_i64
  have I0 := Lib.hid (And.intro hi0 (And.intro hz0 (And.intro hz1 hz2)))
  have HKL : Hid (ks.length ≤ 100000 ∧ ps.length ≤ 100000) := Lib.hid hsz
  obtain ⟨pk, hpk⟩ : ∃ x, ps.map (·.1) = x := ⟨_, rfl⟩
  have HPK := Lib.hid hpk
  clear hpk
  have HL0 := Lib.hid (show 0 + ks.length ≤ maxLen ∧ (0 + ks.length) * 8 ≤ 140737488355328 by unfold maxLen; omega)
  clear h r1 r2 r3 r4 hcl IH H1 H2 hb1 hw1 hb2 hw2 hb3 hw3 hb12 hb13 X1 hi0 hz0 hz1 hz2 hdp hsz HH
  go_enter Try.func47, Try.ntmps47
  unfold shV bdV
  dsimp only [Sh.lf, Sh.tg, Sh.ps, Sh.ks, Sh.kids]
  go_upto_region 1 with fail
  rw [HWW.out.1, HWW.out.2.2.1, HWW.out.2.2.2.2.1, HWW.out.2.1, HWW.out.2.2.2.1, HWW.out.2.2.2.2.2]
  clear HWW
  go_wp2_with (at_builtin; refine wpList_append_typed _ rfl _ _ _ (by rfl) 2 i0 (.int .i64 0) 1 8 Try.underlying22 I0.out.1 I0.out.2.1 I0.out.2.2.1 I0.out.2.2.2 rfl (by decide) (.slice (some ⟨w3.heap.size, 0, none⟩) 0 0) 0 [] (by rfl) (QRow.none0 _ _) (.slice ak ks.length ck) ks.length (intC ks) (by rfl) (RK.out.fr (S := nob) (by repeat (first | exact Fr.refl _ _ | apply Fr.drew | apply Fr.alloc)) (fun _ _ _ x => x)) (intC_one ks) HL0.out.1 HL0.out.2 ?_)
  intro a4 c4 w4 q4 grow4 hat4
  have G4 := H2'.out.appRow 0 (m := ks.length) rfl (Fr.refl _ _) q4 grow4 (fun g hg => by have h9 := hat4 g hg; simpa using h9)
  have HH : Hid (Heap w w4 ([rowP 2 1 (.slice a4 ks.length c4) ks.length (intC (ks))] ++ [blkP b3 92 #[.bool t1, .int .i64 t2], blkP b2 92 #[.bool f1, .int .i64 f2], blkP b1 33 #[.bool lf, .bool tg, .slice ap ps.length cp, .slice ak ks.length ck, .slice ac kids.length cc]])) := Lib.hid G4
  clear G4 q4 grow4 hat4 H2' RK x3
  have x2 : World.cell? w4 ⟨b1, 2, none⟩ = some (.slice ap ps.length cp) := ((BXS.out _ _ HH.out).1).cell 2
  go_wp2_with fail
  have HH : Hid ((ks ++ pk.take 0).length = ks.length ∧ Heap w w4 ([rowP 2 1 (.slice a4 ks.length c4) ks.length (intC ((ks ++ pk.take 0)))] ++ [blkP b3 92 #[.bool t1, .int .i64 t2], blkP b2 92 #[.bool f1, .int .i64 f2], blkP b1 33 #[.bool lf, .bool tg, .slice ap ps.length cp, .slice ak ks.length ck, .slice ac kids.length cc]])) := Lib.hid ⟨by simp, by
    rw [show ks ++ pk.take 0 = ks by simp]
    exact HH.out⟩
  clear x2
  go_loopw [7, 23] (fun s7 q wr => ∃ (i n1 : Nat) (a : Option Addr) (c : Nat), q = .int .i64 (i : Nat) ∧ i ≤ ps.length ∧ s7 = .slice a n1 c ∧ n1 ≤ 200000 ∧ Hid ((ks ++ pk.take i).length = n1 ∧ Heap w wr ([rowP 2 1 (.slice a n1 c) n1 (intC ((ks ++ pk.take i)))] ++ [blkP b3 92 #[.bool t1, .int .i64 t2], blkP b2 92 #[.bool f1, .int .i64 f2], blkP b1 33 #[.bool lf, .bool tg, .slice ap ps.length cp, .slice ak ks.length ck, .slice ac kids.length cc]]))) (fun _ q _ => ps.length - (intOf q).toNat)
  case atStart => exact ⟨0, ks.length, a4, c4, rfl, Nat.zero_le _, rfl, by have := HKL.out; omega, HH⟩
  case round =>
  clear HH
  obtain ⟨i, n1, a, c, rfl, hi, rfl, hn1, HQ⟩ := hrel
  obtain ⟨hlen, H0⟩ := HQ.out
  have HH := Lib.hid H0
  clear HQ
  by_cases hlt : i < ps.length
  · have HLT := Lib.hid hlt
    obtain ⟨⟨p1, p2⟩, hp⟩ : ∃ p, ps[i]? = some p := ⟨_, List.getElem?_eq_getElem hlt⟩
    have R2 := HP.out.1.1.fr H0.fr (fun _ _ _ x => x)
    obtain ⟨a1, rfl, _, _⟩ := R2.at (by omega)
    obtain ⟨k0, k1⟩ := R2.pair hp
    dsimp only at k0 k1
    have H4 := H0.allocF 77 #[.int .i64 p1, .int .i64 p2]
    obtain ⟨b4, hb4⟩ : ∃ b, wr.heap.size = b := ⟨_, rfl⟩
    obtain ⟨w5, hw5⟩ : ∃ z, wr.alloc (.cells #[.int .i64 p1, .int .i64 p2] 77) = z := ⟨_, rfl⟩
    rw [hb4, hw5] at H4
    have y0 := (H4.blk 0 rfl).cell 0
    have H4' := Lib.hid H4
    have HWW := Lib.hid (And.intro hb4 hw5)
    have HNX : Hid (ks ++ pk.take (i + 1) = ks ++ pk.take i ++ [p1] ∧ (ks ++ pk.take i).length = n1) := Lib.hid ⟨by rw [List.take_add_one, ← HPK.out, List.getElem?_map, hp]; simp, hlen⟩
    have hn2 : n1 < 200000 := by
      have h9 : (ks ++ pk.take i).length = ks.length + i := by rw [List.length_append, List.length_take, ← HPK.out, List.length_map]; omega
      have := HKL.out
      omega
    have QQ := Lib.hid (H4.row 1 (t := 2) (sz := 1) (n := n1) (v := .slice a n1 c) (us := intC (ks ++ pk.take i)) rfl)
    have HL := Lib.hid (show n1 + 1 ≤ maxLen ∧ (n1 + 1) * 8 ≤ 140737488355328 by unfold maxLen; omega)
    clear H0 H4 HH hlen hp R2 hb4 hw5 hlt
    go_upto_region 5 with fail
    rw [HWW.out.1, HWW.out.2]
    clear HWW k0 k1
    go_wp2_with (at_builtin; refine wpList_append_typed _ rfl _ _ _ (by rfl) 2 i0 (.int .i64 0) 1 8 Try.underlying22 I0.out.1 I0.out.2.1 I0.out.2.2.1 I0.out.2.2.2 rfl (by decide) (.slice a n1 c) n1 (intC (ks ++ pk.take i)) (by rfl) (QQ.out.fr (F := nob) (by repeat (first | exact Fr.refl _ _ | apply Fr.drew | apply Fr.alloc)) (fun _ _ _ x => x)) _ 1 [.int .i64 p1] (by rfl) (RdV.block (cs := #[.int .i64 p1]) (t := 2) (by repeat (first | exact Blk.new' rfl _ _ | apply Blk.drew | apply Blk.alloc)) rfl (by decide)) (by simp [Value.oneCell']) HL.out.1 HL.out.2 ?_)
    intro a6 c6 w6 q6 grow6 hat6
    have G6 := H4'.out.growRow 1 (t := 2) (sz := 1) (n := n1) (v := .slice a n1 c) (us := intC (ks ++ pk.take i)) rfl (Fr.alloc (Fr.refl nob w5) (.cells #[.int .i64 p1] 2)) q6 grow6 (fun g hg => (hat6 g hg).imp_left (fun h => h.imp_right (fun h => by simpa using h)))
    have HX : Hid ((ks ++ pk.take (i + 1)).length = n1 + 1 ∧ Heap w w6 ([rowP 2 1 (.slice a6 (n1 + 1) c6) (n1 + 1) (intC ((ks ++ pk.take (i + 1))))] ++ [blkP b3 92 #[.bool t1, .int .i64 t2], blkP b2 92 #[.bool f1, .int .i64 f2], blkP b1 33 #[.bool lf, .bool tg, .slice (some a1) ps.length cp, .slice ak ks.length ck, .slice ac kids.length cc]])) := Lib.hid ⟨by rw [HNX.out.1, List.length_append, HNX.out.2]; rfl, by
      rw [HNX.out.1, intC_snoc]
      exact G6.tailP⟩
    clear G6 q6 grow6 hat6 QQ H4' y0
    go_wp2_with fail
    exact ⟨⟨i + 1, n1 + 1, a6, c6, by go_num, by have := HLT.out; omega, rfl, by omega, HX⟩, by have := HLT.out; simp [intOf]; omega⟩
  · obtain rfl : i = ps.length := by omega
    have htk : pk.take ps.length = pk := List.take_of_length_le (by rw [← HPK.out, List.length_map]; exact Nat.le_refl _)
    rw [htk] at hlen H0
    obtain ⟨l, hl⟩ : ∃ x, ks ++ pk = x := ⟨_, rfl⟩
    rw [hl] at hlen H0
    have HLL : Hid (ks ++ ps.map (·.1) = l ∧ l.length = n1) := Lib.hid ⟨by rw [HPK.out]; exact hl, hlen⟩
    clear htk
    have HH := Lib.hid (And.intro (fun (i : Nat) (hi : i < 0) => (absurd hi (by omega) : okAt l f1 f2 t1 t2 i = true)) H0)
    clear hl hlen H0
    go_wp2_with fail
    go_loopw [35] (fun q wr => ∃ i : Nat, q = .int .i64 (i : Nat) ∧ i ≤ n1 ∧ Hid ((∀ j, j < i → okAt l f1 f2 t1 t2 j = true) ∧ Heap w wr ([rowP 2 1 (.slice a n1 c) n1 (intC (l))] ++ [blkP b3 92 #[.bool t1, .int .i64 t2], blkP b2 92 #[.bool f1, .int .i64 f2], blkP b1 33 #[.bool lf, .bool tg, .slice ap ps.length cp, .slice ak ks.length ck, .slice ac kids.length cc]]))) (fun q _ => n1 - (intOf q).toNat)
    case atStart => exact ⟨0, rfl, Nat.zero_le _, HH⟩
    case round =>
    clear HH
    obtain ⟨i, rfl, hi2, HQ⟩ := hrel
    obtain ⟨hall, H0⟩ := HQ.out
    have HALL := Lib.hid hall
    have HH := Lib.hid H0
    clear HQ hall
    by_cases hlt2 : i < n1
    · have HLT := Lib.hid hlt2
      have RL := (H0.row 0 (t := 2) (sz := 1) (n := n1) (v := .slice a n1 c) (us := intC l) rfl).rdv
      obtain ⟨g1, rfl, _, hat⟩ := RL.at (by omega)
      obtain ⟨k, hk⟩ : ∃ x, l[i]? = some x := ⟨_, List.getElem?_eq_getElem (by rw [HLL.out.2]; exact hlt2)⟩
      have y1 : World.cell? wr (g1.add i) = some (.int .i64 k) := hat i _ (by unfold intC; rw [List.getElem?_map, hk]; rfl)
      obtain ⟨X1, X2, X3⟩ := BXS.out _ _ H0
      have z20 := X2.cell 0
      have z21 := X2.cell 1
      have z30 := X3.cell 0
      have z31 := X3.cell 1
      obtain ⟨kp, hkp⟩ : ∃ x, l.getD (i - 1) 0 = x := ⟨_, rfl⟩
      have ypv : 0 < i → World.cell? wr (g1.add (i - 1)) = some (.int .i64 kp) := fun h0 => by
        obtain ⟨kq, hkq⟩ : ∃ x, l[i - 1]? = some x := ⟨_, List.getElem?_eq_getElem (by rw [HLL.out.2]; omega)⟩
        rw [← hkp, List.getD_eq_getElem?_getD, hkq]
        exact hat (i - 1) _ (by unfold intC; rw [List.getElem?_map, hkq]; rfl)
      have HYP := Lib.hid ypv
      have HOK : Hid (okAt l f1 f2 t1 t2 i = !((f1 && decide (k < f2)) || (t1 && decide (t2 ≤ k)) || (decide (0 < i) && decide (k ≤ kp)))) := Lib.hid (by
        unfold okAt
        rw [hkp, List.getD_eq_getElem?_getD, hk]
        rfl)
      have hli : (i : Int) < (n1 : Int) := by omega
      clear RL hat hk X1 X2 X3 hkp ypv hlt2 H0
      go_upto_region 10 with fail
      go_cut [70] from 40 to 70 (fun s70 wx => s70 = .bool (!(okAt l f1 f2 t1 t2 i)) ∧ wx = wr)
      case first =>
        clear HH HALL
        have fin : ∀ (c1 c2 c3 : Bool), (f1 && decide (k < f2)) = c1 → (t1 && decide (t2 ≤ k)) = c2 → (decide (0 < i) && decide (k ≤ kp)) = c3 → Value.bool (c1 || c2 || c3) = .bool (!(okAt l f1 f2 t1 t2 i)) := fun c1 c2 c3 h1 h2 h3 => by rw [HOK.out, h1, h2, h3, Bool.not_not]
        have FIN := Lib.hid fin
        clear fin
        have hc1 : (f1 = false) ∨ (f1 = true ∧ ¬ k < f2) ∨ (f1 = true ∧ k < f2) := by
          by_cases h : k < f2 <;> cases f1 <;> simp [h]
        have hc2 : (t1 = false) ∨ (t1 = true ∧ ¬ t2 ≤ k) ∨ (t1 = true ∧ t2 ≤ k) := by
          by_cases h : t2 ≤ k <;> cases t1 <;> simp [h]
        have hc3 : ¬ 0 < i ∨ (0 < i ∧ ¬ k ≤ kp) ∨ (0 < i ∧ k ≤ kp) := by omega
        rcases hc1 with rfl | ⟨rfl, h1⟩ | ⟨rfl, h1⟩
        · rcases hc2 with rfl | ⟨rfl, h2⟩ | ⟨rfl, h2⟩
          · rcases hc3 with h3 | ⟨h3, h4⟩ | ⟨h3, h4⟩
            · have h5 : ¬ (0 : Int) < (i : Int) := by omega
              go_wp2_with fail
              go_meet
              exact ⟨FIN.out false false false (rfl) (rfl) (by simp [h3]), rfl⟩
            · obtain ⟨j, rfl⟩ : ∃ j, i = j + 1 := ⟨i - 1, by omega⟩
              have y2 := HYP.out h3
              rw [Nat.add_sub_cancel] at y2
              have h5 : (0 : Int) < ((j + 1 : Nat) : Int) := by omega
              have h7 : (j : Int) < (n1 : Int) := by omega
              go_wp2_with fail
              go_meet
              exact ⟨FIN.out false false false (rfl) (rfl) (by simp [h4]), rfl⟩
            · obtain ⟨j, rfl⟩ : ∃ j, i = j + 1 := ⟨i - 1, by omega⟩
              have y2 := HYP.out h3
              rw [Nat.add_sub_cancel] at y2
              have h5 : (0 : Int) < ((j + 1 : Nat) : Int) := by omega
              have h7 : (j : Int) < (n1 : Int) := by omega
              go_wp2_with fail
              go_meet
              exact ⟨FIN.out false false true (rfl) (rfl) (by simp [h4]), rfl⟩
          · rcases hc3 with h3 | ⟨h3, h4⟩ | ⟨h3, h4⟩
            · have h5 : ¬ (0 : Int) < (i : Int) := by omega
              go_wp2_with fail
              go_meet
              exact ⟨FIN.out false false false (rfl) (by simp [h2]) (by simp [h3]), rfl⟩
            · obtain ⟨j, rfl⟩ : ∃ j, i = j + 1 := ⟨i - 1, by omega⟩
              have y2 := HYP.out h3
              rw [Nat.add_sub_cancel] at y2
              have h5 : (0 : Int) < ((j + 1 : Nat) : Int) := by omega
              have h7 : (j : Int) < (n1 : Int) := by omega
              go_wp2_with fail
              go_meet
              exact ⟨FIN.out false false false (rfl) (by simp [h2]) (by simp [h4]), rfl⟩
            · obtain ⟨j, rfl⟩ : ∃ j, i = j + 1 := ⟨i - 1, by omega⟩
              have y2 := HYP.out h3
              rw [Nat.add_sub_cancel] at y2
              have h5 : (0 : Int) < ((j + 1 : Nat) : Int) := by omega
              have h7 : (j : Int) < (n1 : Int) := by omega
              go_wp2_with fail
              go_meet
              exact ⟨FIN.out false false true (rfl) (by simp [h2]) (by simp [h4]), rfl⟩
          · go_wp2_with fail
            go_meet
            exact ⟨FIN.out false true (decide (0 < i) && decide (k ≤ kp)) (rfl) (by simp [h2]) (rfl), rfl⟩
        · rcases hc2 with rfl | ⟨rfl, h2⟩ | ⟨rfl, h2⟩
          · rcases hc3 with h3 | ⟨h3, h4⟩ | ⟨h3, h4⟩
            · have h5 : ¬ (0 : Int) < (i : Int) := by omega
              go_wp2_with fail
              go_meet
              exact ⟨FIN.out false false false (by simp [h1]) (rfl) (by simp [h3]), rfl⟩
            · obtain ⟨j, rfl⟩ : ∃ j, i = j + 1 := ⟨i - 1, by omega⟩
              have y2 := HYP.out h3
              rw [Nat.add_sub_cancel] at y2
              have h5 : (0 : Int) < ((j + 1 : Nat) : Int) := by omega
              have h7 : (j : Int) < (n1 : Int) := by omega
              go_wp2_with fail
              go_meet
              exact ⟨FIN.out false false false (by simp [h1]) (rfl) (by simp [h4]), rfl⟩
            · obtain ⟨j, rfl⟩ : ∃ j, i = j + 1 := ⟨i - 1, by omega⟩
              have y2 := HYP.out h3
              rw [Nat.add_sub_cancel] at y2
              have h5 : (0 : Int) < ((j + 1 : Nat) : Int) := by omega
              have h7 : (j : Int) < (n1 : Int) := by omega
              go_wp2_with fail
              go_meet
              exact ⟨FIN.out false false true (by simp [h1]) (rfl) (by simp [h4]), rfl⟩
          · rcases hc3 with h3 | ⟨h3, h4⟩ | ⟨h3, h4⟩
            · have h5 : ¬ (0 : Int) < (i : Int) := by omega
              go_wp2_with fail
              go_meet
              exact ⟨FIN.out false false false (by simp [h1]) (by simp [h2]) (by simp [h3]), rfl⟩
            · obtain ⟨j, rfl⟩ : ∃ j, i = j + 1 := ⟨i - 1, by omega⟩
              have y2 := HYP.out h3
              rw [Nat.add_sub_cancel] at y2
              have h5 : (0 : Int) < ((j + 1 : Nat) : Int) := by omega
              have h7 : (j : Int) < (n1 : Int) := by omega
              go_wp2_with fail
              go_meet
              exact ⟨FIN.out false false false (by simp [h1]) (by simp [h2]) (by simp [h4]), rfl⟩
            · obtain ⟨j, rfl⟩ : ∃ j, i = j + 1 := ⟨i - 1, by omega⟩
              have y2 := HYP.out h3
              rw [Nat.add_sub_cancel] at y2
              have h5 : (0 : Int) < ((j + 1 : Nat) : Int) := by omega
              have h7 : (j : Int) < (n1 : Int) := by omega
              go_wp2_with fail
              go_meet
              exact ⟨FIN.out false false true (by simp [h1]) (by simp [h2]) (by simp [h4]), rfl⟩
          · go_wp2_with fail
            go_meet
            exact ⟨FIN.out false true (decide (0 < i) && decide (k ≤ kp)) (by simp [h1]) (by simp [h2]) (rfl), rfl⟩
        · go_wp2_with fail
          go_meet
          exact ⟨FIN.out true (t1 && decide (t2 ≤ k)) (decide (0 < i) && decide (k ≤ kp)) (by simp [h1]) (rfl) (rfl), rfl⟩
      case rest =>
      obtain ⟨rfl, hwx⟩ := hcut
      subst hwx
      clear z20 z21 z30 z31 y1
      rename World => w8
      cases hok : okAt l f1 f2 t1 t2 i with
      | true =>
        have HN : Hid ((∀ j, j < i + 1 → okAt l f1 f2 t1 t2 j = true) ∧ Heap w w8 ([rowP 2 1 (.slice (some g1) n1 c) n1 (intC (l))] ++ [blkP b3 92 #[.bool t1, .int .i64 t2], blkP b2 92 #[.bool f1, .int .i64 f2], blkP b1 33 #[.bool lf, .bool tg, .slice ap ps.length cp, .slice ak ks.length ck, .slice ac kids.length cc]])) := Lib.hid ⟨fun j hj => by
          rcases (by omega : j < i ∨ j = i) with h | rfl
          · exact HALL.out j h
          · exact hok, HH.out⟩
        have HNO := Lib.hid hok
        clear hok HH HALL
        rw [Bool.not_true]
        go_wp2_with fail
        exact ⟨⟨i + 1, by go_num, by have := HLT.out; omega, HN⟩, by have := HLT.out; simp [intOf]; omega⟩
      | false =>
        have HPF : Hid (placedP (.mk lf tg ps ks kids) f1 f2 t1 t2 = false) := Lib.hid (by
          rw [placedP_mk, HLL.out.1]
          have : okKeys l f1 f2 t1 t2 = false := by
            unfold okKeys
            rw [List.all_eq_false]
            exact ⟨i, by rw [List.mem_range, HLL.out.2]; exact HLT.out, by rw [hok]; simp⟩
          rw [this]
          rfl)
        clear hok
        rw [Bool.not_false]
        go_wp2_with fail
        go_ret
        exact ⟨by rw [HPF.out]; rfl, HH.out.fr⟩
    · obtain rfl : i = n1 := by omega
      have HK : Hid (okKeys l f1 f2 t1 t2 = true) := Lib.hid (by
        unfold okKeys
        rw [List.all_eq_true]
        intro j hj
        rw [List.mem_range, HLL.out.2] at hj
        exact HALL.out j hj)
      have HB := Lib.hid (Heap.tailP H0)
      obtain ⟨X1, _⟩ := BXS.out _ [] HB.out
      have x0 := X1.cell 0
      have x3 := X1.cell 3
      have x4 := X1.cell 4
      clear HH H0 HALL X1 hlt2
      have hk0c : (kids.length = 0) ∨ (¬ kids.length = 0) := by omega
      have hk1c : (ks.length + 1 = kids.length) ∨ (¬ ks.length + 1 = kids.length) := by omega
      have hkl9 : ks.length ≤ 100000 := HKL.out.1
      go_upto_region 13 with fail
      go_cut [93] from 72 to 93 (fun s93 wx => s93 = .bool (!(okForm lf ks.length kids.length)) ∧ wx = wr)
      case first =>
        rcases hk0c with h0 | h0
        · have e0 : ((kids.length : Int) == 0) = true := by rw [h0]; rfl
          have f0 : okForm true ks.length kids.length = true := by rw [h0]; rfl
          have f1 : okForm false ks.length kids.length = false := by rw [h0]; rfl
          have F0 := Lib.hid f0
          have F1 := Lib.hid f1
          clear h0 f0 f1 hk1c
          cases lf with
          | true =>
            go_wp2_with fail
            go_meet
            exact ⟨by rw [F0.out]; rfl, rfl⟩
          | false =>
            go_wp2_with fail
            go_meet
            exact ⟨by rw [F1.out]; rfl, rfl⟩
        · have e0 : ((kids.length : Int) == 0) = false := beq_eq_false_iff_ne.2 (by omega)
          have e1 : (kids.length == 0) = false := beq_eq_false_iff_ne.2 h0
          have F0 : Hid (okForm true ks.length kids.length = false) := Lib.hid (by unfold okForm; rw [e1]; rfl)
          clear h0
          rcases hk1c with h1 | h1
          · have e3 : (((ks.length : Int) + 1) != (kids.length : Int)) = false := by rw [bne_eq_false_iff_eq]; omega
            have F1 : Hid (okForm false ks.length kids.length = true) := Lib.hid (by unfold okForm; rw [e1, h1]; simp)
            clear h1
            cases lf with
            | true =>
              go_wp2_with fail
              go_meet
              exact ⟨by rw [F0.out]; rfl, rfl⟩
            | false =>
              go_wp2_with fail
              go_meet
              exact ⟨by rw [F1.out]; rfl, rfl⟩
          · have e3 : (((ks.length : Int) + 1) != (kids.length : Int)) = true := by rw [bne_iff_ne]; omega
            have F1 : Hid (okForm false ks.length kids.length = false) := Lib.hid (by unfold okForm; rw [e1, beq_eq_false_iff_ne.2 h1]; rfl)
            clear h1
            cases lf with
            | true =>
              go_wp2_with fail
              go_meet
              exact ⟨by rw [F0.out]; rfl, rfl⟩
            | false =>
              go_wp2_with fail
              go_meet
              exact ⟨by rw [F1.out]; rfl, rfl⟩
      case rest =>
      obtain ⟨rfl, hwx⟩ := hcut
      subst hwx
      clear x0 x3 x4 hk0c hk1c
      rename World => w9
      cases hform : okForm lf ks.length kids.length with
      | false =>
        have HPF : Hid (placedP (.mk lf tg ps ks kids) f1 f2 t1 t2 = false) := Lib.hid (by
          rw [placedP_mk, HLL.out.1, HK.out, hform]
          rfl)
        clear hform
        rw [Bool.not_false]
        go_wp2_with fail
        go_ret
        exact ⟨by rw [HPF.out]; rfl, HB.out.fr⟩
      | true =>
        have HPT : Hid (placedP (.mk lf tg ps ks kids) f1 f2 t1 t2 = placedsP ks kids 0 f1 f2 t1 t2 ∧ (0 < kids.length → ks.length + 1 = kids.length)) := Lib.hid ⟨by
          rw [placedP_mk, HLL.out.1, HK.out, hform]
          simp, fun h0 => by
          unfold okForm at hform
          rw [beq_eq_false_iff_ne.2 (by omega : ¬ kids.length = 0)] at hform
          cases lf with
          | true => simp at hform
          | false => simpa using hform⟩
        have HB : Hid (Heap w w9 ([] ++ [blkP b3 92 #[.bool t1, .int .i64 t2], blkP b2 92 #[.bool f1, .int .i64 f2], blkP b1 33 #[.bool lf, .bool tg, .slice ap ps.length cp, .slice ak ks.length ck, .slice ac kids.length cc]])) := HB
        have x4 := ((BXS.out _ [] HB.out).1).cell 4
        clear hform
        rw [Bool.not_true]
        go_wp2_with fail
        clear x4
        go_loopw [97] (fun q wr => ∃ j : Nat, q = .int .i64 (j : Nat) ∧ j ≤ kids.length ∧ Hid (placedsP ks (kids.drop j) j f1 f2 t1 t2 = placedsP ks kids 0 f1 f2 t1 t2 ∧ Heap w wr ([] ++ [blkP b3 92 #[.bool t1, .int .i64 t2], blkP b2 92 #[.bool f1, .int .i64 f2], blkP b1 33 #[.bool lf, .bool tg, .slice ap ps.length cp, .slice ak ks.length ck, .slice ac kids.length cc]]))) (fun q _ => kids.length - (intOf q).toNat)
        case atStart => exact ⟨0, rfl, Nat.zero_le _, Lib.hid ⟨rfl, HB.out⟩⟩
        case round =>
        clear HB
        obtain ⟨j, rfl, hj, HQ⟩ := hrel
        obtain ⟨hpl, H0⟩ := HQ.out
        have HH : Hid (Heap w wr ([] ++ [blkP b3 92 #[.bool t1, .int .i64 t2], blkP b2 92 #[.bool f1, .int .i64 f2], blkP b1 33 #[.bool lf, .bool tg, .slice ap ps.length cp, .slice ak ks.length ck, .slice ac kids.length cc]])) := Lib.hid H0
        clear HQ H0
        by_cases hlt : j < kids.length
        · have HLT := Lib.hid hlt
          obtain ⟨kd, hkd⟩ : ∃ x, kids[j]? = some x := ⟨_, List.getElem?_eq_getElem hlt⟩
          obtain ⟨cv, hcv⟩ : ∃ x, cs[j]? = some x := ⟨_, List.getElem?_eq_getElem (by rw [HR.out.2.2.1]; exact hlt)⟩
          have hS0 := ShsIn.get kids cs j kd cv HR.out.2.1 hkd hcv
          obtain ⟨kp1, kp2, kp3, kp4, kp5, kp6, rfl⟩ := hS0.form
          have hzip : (kids.zip cs)[j]? = some (kd, ⟨.slice kp1 kd.ps.length kp2, .slice kp3 kd.ks.length kp4, .slice kp5 kd.kids.length kp6⟩) := by rw [List.getElem?_zip_eq_some]; exact ⟨hkd, hcv⟩
          have R3 := HR.out.1.1.fr HH.out.fr (fun _ _ _ x => x)
          obtain ⟨g1, rfl, _, _⟩ := R3.at (by omega)
          obtain ⟨k0, k1, k2, k3, k4⟩ := R3.five hzip hlt
          dsimp only at k2 k3 k4
          have H4 := HH.out.allocF 33 #[.bool kd.lf, .bool kd.tg, .slice kp1 kd.ps.length kp2, .slice kp3 kd.ks.length kp4, .slice kp5 kd.kids.length kp6]
          obtain ⟨b4, hb4⟩ : ∃ b, wr.heap.size = b := ⟨_, rfl⟩
          obtain ⟨w4, hw4⟩ : ∃ z, wr.alloc (.cells #[.bool kd.lf, .bool kd.tg, .slice kp1 kd.ps.length kp2, .slice kp3 kd.ks.length kp4, .slice kp5 kd.kids.length kp6] 33) = z := ⟨_, rfl⟩
          rw [hb4, hw4] at H4
          have B4 := H4.blk 0 rfl
          have y0 := B4.cell 0
          have y1 := B4.cell 1
          have y2 := B4.cell 2
          have y3 := B4.cell 3
          have y4 := B4.cell 4
          have hSw := hS0
          have H4' := Lib.hid H4
          have HWW := Lib.hid (And.intro hb4 hw4)
          have HKD := Lib.hid hkd
          clear hkd hcv hS0 hzip R3 H4 B4 HH hb4 hw4
          obtain ⟨e, he, hde⟩ := dpSh_kid HR.out.2.2.2 HKD.out
          have hdl : kids.drop j = kd :: kids.drop (j + 1) := by
            rw [List.drop_eq_getElem_cons hlt]
            rw [show kids[j] = kd from (List.getElem?_eq_some_iff.1 HKD.out).2]
          rw [hdl, placedsP_cons] at hpl
          have hksl := HPT.out.2 (by omega)
          have HPL := Lib.hid hpl
          have HIHC := Lib.hid (fun A1 A2 B1 B2 z (hz : Fr nob w z) => HIH.out e he z S kd _ A1 A2 B1 B2 (hSw.fr0 hz) hde (HSZ.out.at HKD.out))
          have HKS := Lib.hid hksl
          clear he hde hdl hpl hksl hSw
          go_upto_region 18 with fail
          rw [HWW.out.1, HWW.out.2]
          clear HWW k0 k1 k2 k3 k4 y0 y1 y2 y3 y4
          have HF : Hid (∀ z, (∃ l, Hid (Heap w z (l ++ ([blkP b4 33 #[.bool kd.lf, .bool kd.tg, .slice kp1 kd.ps.length kp2, .slice kp3 kd.ks.length kp4, .slice kp5 kd.kids.length kp6]] ++ [blkP b3 92 #[.bool t1, .int .i64 t2], blkP b2 92 #[.bool f1, .int .i64 f2], blkP b1 33 #[.bool lf, .bool tg, .slice ap ps.length cp, .slice ak ks.length ck, .slice (some g1) kids.length cc]])))) → (World.cell? z ⟨b2, 0, none⟩ = some (.bool f1) ∧ World.cell? z ⟨b2, 1, none⟩ = some (.int .i64 f2)) ∧ (World.cell? z ⟨b3, 0, none⟩ = some (.bool t1) ∧ World.cell? z ⟨b3, 1, none⟩ = some (.int .i64 t2))) := Lib.hid (fun z ⟨l, hz⟩ => by
            have hz1 := Heap.swapF hz.out
            have X2 := hz1.blk 2 (b := b2) (t := 92) (c := #[.bool f1, .int .i64 f2]) rfl
            have X3 := hz1.blk 1 (b := b3) (t := 92) (c := #[.bool t1, .int .i64 t2]) rfl
            exact ⟨⟨X2.cell 0, X2.cell 1⟩, X3.cell 0, X3.cell 1⟩)
          go_cut [14, 15] from 102 to 103 (fun s14 s15 wx => ∃ bx by' : Nat, s14 = .pointer (some ⟨bx, 0, none⟩) ∧ s15 = .pointer (some ⟨by', 0, none⟩) ∧ Hid (Heap w wx ([blkP bx 92 #[.bool f1, .int .i64 f2], blkP by' 92 #[.bool t1, .int .i64 t2]] ++ ([blkP b4 33 #[.bool kd.lf, .bool kd.tg, .slice kp1 kd.ps.length kp2, .slice kp3 kd.ks.length kp4, .slice kp5 kd.kids.length kp6]] ++ [blkP b3 92 #[.bool t1, .int .i64 t2], blkP b2 92 #[.bool f1, .int .i64 f2], blkP b1 33 #[.bool lf, .bool tg, .slice ap ps.length cp, .slice ak ks.length ck, .slice (some g1) kids.length cc]]))))
          case first =>
            have HZ : Hid (Heap w (World.drew w4) ([] ++ ([blkP b4 33 #[.bool kd.lf, .bool kd.tg, .slice kp1 kd.ps.length kp2, .slice kp3 kd.ks.length kp4, .slice kp5 kd.kids.length kp6]] ++ [blkP b3 92 #[.bool t1, .int .i64 t2], blkP b2 92 #[.bool f1, .int .i64 f2], blkP b1 33 #[.bool lf, .bool tg, .slice ap ps.length cp, .slice ak ks.length ck, .slice (some g1) kids.length cc]]))) := Lib.hid H4'.out.drew
            refine wp_region_noPanic ?_
            refine AnyK.start (ks := [5]) (S := fun w' => ∃ l, Hid (Heap w w' (l ++ ([blkP b4 33 #[.bool kd.lf, .bool kd.tg, .slice kp1 kd.ps.length kp2, .slice kp3 kd.ks.length kp4, .slice kp5 kd.kids.length kp6]] ++ [blkP b3 92 #[.bool t1, .int .i64 t2], blkP b2 92 #[.bool f1, .int .i64 f2], blkP b1 33 #[.bool lf, .bool tg, .slice ap ps.length cp, .slice ak ks.length ck, .slice (some g1) kids.length cc]])))) (by kernel_rfl) (by exact ⟨[], HZ⟩) (fun _ => ?_)
            refine AnyK.takeB (i := 0) (v := ?_) rfl (by kernel_rfl) (by kernel_rfl) (by kernel_rfl) (by kernel_rfl) (fun _ _ _ h => h) (Or.inl ⟨by kernel_rfl, ?_⟩) (by exact ⟨[], HZ⟩) ?_
            rotate_left
            focus
              intro w9 hSw
              have hSw := HF.out w9 hSw
              go_simp
              try with_reducible rfl
            try simp only [Act.put, List.getElem_toArray, List.getElem_cons_zero, List.getElem_cons_succ, List.setIfInBounds_toArray, List.set_cons_zero, List.set_cons_succ]
            refine AnyK.takeB (i := 1) (v := ?_) rfl (by kernel_rfl) (by kernel_rfl) (by kernel_rfl) (by kernel_rfl) (fun _ _ _ h => h) (Or.inl ⟨by kernel_rfl, ?_⟩) (by exact ⟨[], HZ⟩) ?_
            rotate_left
            focus
              intro w9 hSw
              have hSw := HF.out w9 hSw
              go_simp
              try with_reducible rfl
            try simp only [Act.put, List.getElem_toArray, List.getElem_cons_zero, List.getElem_cons_succ, List.setIfInBounds_toArray, List.set_cons_zero, List.set_cons_succ]
            refine name_w (fun z0 hz0 => ?_)
            rw [hz0] at HZ
            clear hz0
            refine AnyK.two (i := 2) (j := 3) (by kernel_rfl) rfl rfl (fun K9 hK9 => ?_) (fun K9 hK9 => ?_)
            · go_simp
              have H9 := HZ.out.allocF 92 #[.bool false, .int .i64 0]
              generalize z0.heap.size = bx at H9 hK9 ⊢
              generalize z0.alloc (.cells #[.bool false, .int .i64 0] 92) = x2 at H9 hK9 ⊢
              have H9 : Heap w x2 ([blkP bx 92 #[.bool false, .int .i64 0]] ++ ([blkP b4 33 #[.bool kd.lf, .bool kd.tg, .slice kp1 kd.ps.length kp2, .slice kp3 kd.ks.length kp4, .slice kp5 kd.kids.length kp6]] ++ [blkP b3 92 #[.bool t1, .int .i64 t2], blkP b2 92 #[.bool f1, .int .i64 f2], blkP b1 33 #[.bool lf, .bool tg, .slice ap ps.length cp, .slice ak ks.length ck, .slice (some g1) kids.length cc]])) := H9
              have E0HH1 := Lib.hid H9
              clear H9 HZ
              refine hK9.out _ _ (fun _ => ⟨_, E0HH1⟩) ?_
              clear hK9 K9
              try simp only [Act.put, List.getElem_toArray, List.getElem_cons_zero, List.getElem_cons_succ, List.setIfInBounds_toArray, List.set_cons_zero, List.set_cons_succ]
              refine AnyK.one (i := 3) (by kernel_rfl) rfl (fun K9 hK9 => ?_)
              go_simp
              have H9 := E0HH1.out.allocF 92 #[.bool false, .int .i64 0]
              generalize x2.heap.size = by9 at H9 hK9 ⊢
              generalize x2.alloc (.cells #[.bool false, .int .i64 0] 92) = x3 at H9 hK9 ⊢
              have H9 : Heap w x3 ([blkP by9 92 #[.bool false, .int .i64 0], blkP bx 92 #[.bool false, .int .i64 0]] ++ ([blkP b4 33 #[.bool kd.lf, .bool kd.tg, .slice kp1 kd.ps.length kp2, .slice kp3 kd.ks.length kp4, .slice kp5 kd.kids.length kp6]] ++ [blkP b3 92 #[.bool t1, .int .i64 t2], blkP b2 92 #[.bool f1, .int .i64 f2], blkP b1 33 #[.bool lf, .bool tg, .slice ap ps.length cp, .slice ak ks.length ck, .slice (some g1) kids.length cc]])) := H9
              have E1HH2 := Lib.hid H9
              clear H9 E0HH1
              refine hK9.out _ _ (fun _ => ⟨_, E1HH2⟩) ?_
              clear hK9 K9
              try simp only [Act.put, List.getElem_toArray, List.getElem_cons_zero, List.getElem_cons_succ, List.setIfInBounds_toArray, List.set_cons_zero, List.set_cons_succ]
              have BA := E1HH2.out.blk 1 (b := bx) (t := 92) (c := #[.bool false, .int .i64 0]) rfl
              have a0 := BA.cell 0
              have a1 := BA.cell 1
              have fa0 := BA.froz 0
              have fa1 := BA.froz 1
              have H8 := Lib.hid ((E1HH2.out.setCell 1 rfl 0 (.bool f1)).setCell 1 rfl 1 (.int .i64 f2))
              have BB := H8.out.blk 0 (b := by9) (t := 92) (c := #[.bool false, .int .i64 0]) rfl
              have c0 := BB.cell 0
              have c1 := BB.cell 1
              have fc0 := BB.froz 0
              have fc1 := BB.froz 1
              have H9 := Lib.hid ((H8.out.setCell 0 rfl 0 (.bool t1)).setCell 0 rfl 1 (.int .i64 t2))
              clear BA BB
              refine AnyK.one (i := 4) (by kernel_rfl) rfl (fun K9 hK9 => ?_)
              go_simp
              refine hK9.out _ _ (fun _ => ⟨[blkP by9 92 #[.bool false, .int .i64 0], blkP bx 92 #[.bool f1, .int .i64 f2]], H8⟩) ?_
              clear hK9 K9
              try simp only [Act.put, List.getElem_toArray, List.getElem_cons_zero, List.getElem_cons_succ, List.setIfInBounds_toArray, List.set_cons_zero, List.set_cons_succ]
              refine AnyK.one (i := 5) (by kernel_rfl) rfl (fun K9 hK9 => ?_)
              go_simp
              refine hK9.out _ _ (fun h => absurd (by decide) h) ?_
              clear hK9 K9
              try simp only [Act.put, List.getElem_toArray, List.getElem_cons_zero, List.getElem_cons_succ, List.setIfInBounds_toArray, List.set_cons_zero, List.set_cons_succ]
              refine AnyK.done (by kernel_rfl) ?_ _
              refine NoPanic.normal ?_
              clear a0 a1 fa0 fa1 c0 c1 fc0 fc1
              go_wp2_with fail
              go_meet
              exact ⟨bx, by9, rfl, rfl, Lib.hid H9.out.swap2⟩
            · go_simp
              have H9 := HZ.out.allocF 92 #[.bool false, .int .i64 0]
              generalize z0.heap.size = by9 at H9 hK9 ⊢
              generalize z0.alloc (.cells #[.bool false, .int .i64 0] 92) = x3 at H9 hK9 ⊢
              have H9 : Heap w x3 ([blkP by9 92 #[.bool false, .int .i64 0]] ++ ([blkP b4 33 #[.bool kd.lf, .bool kd.tg, .slice kp1 kd.ps.length kp2, .slice kp3 kd.ks.length kp4, .slice kp5 kd.kids.length kp6]] ++ [blkP b3 92 #[.bool t1, .int .i64 t2], blkP b2 92 #[.bool f1, .int .i64 f2], blkP b1 33 #[.bool lf, .bool tg, .slice ap ps.length cp, .slice ak ks.length ck, .slice (some g1) kids.length cc]])) := H9
              have E2HH1 := Lib.hid H9
              clear H9 HZ
              refine hK9.out _ _ (fun _ => ⟨_, E2HH1⟩) ?_
              clear hK9 K9
              try simp only [Act.put, List.getElem_toArray, List.getElem_cons_zero, List.getElem_cons_succ, List.setIfInBounds_toArray, List.set_cons_zero, List.set_cons_succ]
              refine AnyK.one (i := 2) (by kernel_rfl) rfl (fun K9 hK9 => ?_)
              go_simp
              have H9 := E2HH1.out.allocF 92 #[.bool false, .int .i64 0]
              generalize x3.heap.size = bx at H9 hK9 ⊢
              generalize x3.alloc (.cells #[.bool false, .int .i64 0] 92) = x2 at H9 hK9 ⊢
              have H9 : Heap w x2 ([blkP bx 92 #[.bool false, .int .i64 0], blkP by9 92 #[.bool false, .int .i64 0]] ++ ([blkP b4 33 #[.bool kd.lf, .bool kd.tg, .slice kp1 kd.ps.length kp2, .slice kp3 kd.ks.length kp4, .slice kp5 kd.kids.length kp6]] ++ [blkP b3 92 #[.bool t1, .int .i64 t2], blkP b2 92 #[.bool f1, .int .i64 f2], blkP b1 33 #[.bool lf, .bool tg, .slice ap ps.length cp, .slice ak ks.length ck, .slice (some g1) kids.length cc]])) := H9
              have E3HH2 := Lib.hid H9
              clear H9 E2HH1
              refine hK9.out _ _ (fun _ => ⟨_, E3HH2⟩) ?_
              clear hK9 K9
              try simp only [Act.put, List.getElem_toArray, List.getElem_cons_zero, List.getElem_cons_succ, List.setIfInBounds_toArray, List.set_cons_zero, List.set_cons_succ]
              have BA := E3HH2.out.blk 0 (b := bx) (t := 92) (c := #[.bool false, .int .i64 0]) rfl
              have a0 := BA.cell 0
              have a1 := BA.cell 1
              have fa0 := BA.froz 0
              have fa1 := BA.froz 1
              have H8 := Lib.hid ((E3HH2.out.setCell 0 rfl 0 (.bool f1)).setCell 0 rfl 1 (.int .i64 f2))
              have BB := H8.out.blk 1 (b := by9) (t := 92) (c := #[.bool false, .int .i64 0]) rfl
              have c0 := BB.cell 0
              have c1 := BB.cell 1
              have fc0 := BB.froz 0
              have fc1 := BB.froz 1
              have H9 := Lib.hid ((H8.out.setCell 1 rfl 0 (.bool t1)).setCell 1 rfl 1 (.int .i64 t2))
              clear BA BB
              refine AnyK.one (i := 4) (by kernel_rfl) rfl (fun K9 hK9 => ?_)
              go_simp
              refine hK9.out _ _ (fun _ => ⟨[blkP bx 92 #[.bool f1, .int .i64 f2], blkP by9 92 #[.bool false, .int .i64 0]], H8⟩) ?_
              clear hK9 K9
              try simp only [Act.put, List.getElem_toArray, List.getElem_cons_zero, List.getElem_cons_succ, List.setIfInBounds_toArray, List.set_cons_zero, List.set_cons_succ]
              refine AnyK.one (i := 5) (by kernel_rfl) rfl (fun K9 hK9 => ?_)
              go_simp
              refine hK9.out _ _ (fun h => absurd (by decide) h) ?_
              clear hK9 K9
              try simp only [Act.put, List.getElem_toArray, List.getElem_cons_zero, List.getElem_cons_succ, List.setIfInBounds_toArray, List.set_cons_zero, List.set_cons_succ]
              refine AnyK.done (by kernel_rfl) ?_ _
              refine NoPanic.normal ?_
              clear a0 a1 fa0 fa1 c0 c1 fc0 fc1
              go_wp2_with fail
              go_meet
              exact ⟨bx, by9, rfl, rfl, Lib.hid H9.out⟩
          case rest =>
          obtain ⟨bx, by', rfl, rfl, HH⟩ := hcut
          clear H4' HF
          rename World => w7
          have R2 := HP.out.2.1.fr HH.out.fr (fun _ _ _ x => x)
          have hj0c : ¬ 0 < j ∨ 0 < j := by omega
          have hj1c : ¬ j < ks.length ∨ j < ks.length := by omega
          rcases hj0c with h0 | h0
          · rcases hj1c with h1 | h1
            · have HPX : Hid ((placedP kd f1 f2 t1 t2 && placedsP ks (kids.drop (j + 1)) (j + 1) f1 f2 t1 t2) = placedsP ks kids 0 f1 f2 t1 t2) := Lib.hid (by
                rw [← HPL.out]
                rw [if_neg h0, if_neg h0]
                rw [if_neg h1, if_neg h1]
                try rfl)
              have hb0 : ¬ (0 : Int) < (j : Int) := by omega
              have hb1 : ¬ ((j : Nat) : Int) < (ks.length : Int) := by omega
              have H0 : Heap w w7 ([blkP bx 92 #[.bool f1, .int .i64 f2], blkP by' 92 #[.bool t1, .int .i64 t2]] ++ ([blkP b4 33 #[.bool kd.lf, .bool kd.tg, .slice kp1 kd.ps.length kp2, .slice kp3 kd.ks.length kp4, .slice kp5 kd.kids.length kp6]] ++ [blkP b3 92 #[.bool t1, .int .i64 t2], blkP b2 92 #[.bool f1, .int .i64 f2], blkP b1 33 #[.bool lf, .bool tg, .slice ap ps.length cp, .slice ak ks.length ck, .slice (some g1) kids.length cc]])) := HH.out
              have x3 : World.cell? w7 ⟨b1, 3, none⟩ = some (.slice ak ks.length ck) := (H0.blk 5 (b := b1) (t := 33) (c := #[.bool lf, .bool tg, .slice ap ps.length cp, .slice ak ks.length ck, .slice (some g1) kids.length cc]) rfl).cell 3
              have H8 := Lib.hid H0
              clear H0 HH R2
              go_upto_region 21 with fail
              clear x3
              obtain ⟨w8, hw8⟩ : ∃ z, w7 = z := ⟨_, rfl⟩
              rw [hw8] at H8 ⊢
              clear hw8
              have H8 : Heap w w8 ([blkP bx 92 #[.bool f1, .int .i64 f2], blkP by' 92 #[.bool t1, .int .i64 t2]] ++ ([blkP b4 33 #[.bool kd.lf, .bool kd.tg, .slice kp1 kd.ps.length kp2, .slice kp3 kd.ks.length kp4, .slice kp5 kd.kids.length kp6]] ++ [blkP b3 92 #[.bool t1, .int .i64 t2], blkP b2 92 #[.bool f1, .int .i64 f2], blkP b1 33 #[.bool lf, .bool tg, .slice ap ps.length cp, .slice ak ks.length ck, .slice (some g1) kids.length cc]])) := H8.out
              have x3 := (H8.blk 5 (b := b1) (t := 33) (c := #[.bool lf, .bool tg, .slice ap ps.length cp, .slice ak ks.length ck, .slice (some g1) kids.length cc]) rfl).cell 3
              have H9 := Lib.hid H8
              clear H8
              go_upto_region 23 with fail
              clear x3
              obtain ⟨w9', hw9⟩ : ∃ z, w8 = z := ⟨_, rfl⟩
              rw [hw9] at H9 ⊢
              clear hw9
              have H9 : Heap w w9' ([blkP bx 92 #[.bool f1, .int .i64 f2], blkP by' 92 #[.bool t1, .int .i64 t2]] ++ ([blkP b4 33 #[.bool kd.lf, .bool kd.tg, .slice kp1 kd.ps.length kp2, .slice kp3 kd.ks.length kp4, .slice kp5 kd.kids.length kp6]] ++ [blkP b3 92 #[.bool t1, .int .i64 t2], blkP b2 92 #[.bool f1, .int .i64 f2], blkP b1 33 #[.bool lf, .bool tg, .slice ap ps.length cp, .slice ak ks.length ck, .slice (some g1) kids.length cc]])) := H9.out
              have BA := H9.blk 0 (b := bx) (t := 92) (c := #[.bool f1, .int .i64 f2]) rfl
              have a0 := BA.cell 0
              have a1 := BA.cell 1
              have BB := H9.blk 1 (b := by') (t := 92) (c := #[.bool t1, .int .i64 t2]) rfl
              have c0 := BB.cell 0
              have c1 := BB.cell 1
              have BK := H9.blk 2 (b := b4) (t := 33) (c := #[.bool kd.lf, .bool kd.tg, .slice kp1 kd.ps.length kp2, .slice kp3 kd.ks.length kp4, .slice kp5 kd.kids.length kp6]) rfl
              have y0 := BK.cell 0
              have y1 := BK.cell 1
              have y2 := BK.cell 2
              have y3 := BK.cell 3
              have y4 := BK.cell 4
              have HB9 := Lib.hid (Heap.mid (l := []) (m := [blkP bx 92 #[.bool f1, .int .i64 f2], blkP by' 92 #[.bool t1, .int .i64 t2], blkP b4 33 #[.bool kd.lf, .bool kd.tg, .slice kp1 kd.ps.length kp2, .slice kp3 kd.ks.length kp4, .slice kp5 kd.kids.length kp6]]) H9)
              clear BA BB BK H9
              have CAX := Lib.hid (HIHC.out f1 f2 t1 t2 w9' HB9.out.fr)
              go_wp2_with fail
              refine CAX.out.mono ?_
              rintro e5 w5 ⟨rfl, F5⟩
              have HX := Lib.hid (HB9.out.go F5)
              clear CAX F5 a0 a1 c0 c1 y0 y1 y2 y3 y4 HB9
              cases hpd : placedP kd f1 f2 t1 t2 with
              | false =>
                have HPE : Hid (placedP (.mk lf tg ps ks kids) f1 f2 t1 t2 = false) := Lib.hid (by rw [HPT.out.1, ← HPX.out, hpd]; rfl)
                clear hpd
                go_wp2_with fail
                go_ret
                exact ⟨by rw [HPE.out]; rfl, HX.out.fr⟩
              | true =>
                have HPN : Hid (placedsP ks (kids.drop (j + 1)) (j + 1) f1 f2 t1 t2 = placedsP ks kids 0 f1 f2 t1 t2) := Lib.hid (by rw [← HPX.out, hpd]; rfl)
                clear hpd
                go_wp2_with fail
                exact ⟨⟨j + 1, by go_num, by have := HLT.out; omega, Lib.hid ⟨HPN.out, HX.out⟩⟩, by have := HLT.out; simp [intOf]; omega⟩
            · obtain ⟨kb, hkb⟩ : ∃ x, ks[j]? = some x := ⟨_, List.getElem?_eq_getElem h1⟩
              obtain ⟨gk, rfl, _, hatk⟩ := R2.at (by have := HKS.out; have := HLT.out; omega)
              have HPX : Hid ((placedP kd f1 f2 true kb && placedsP ks (kids.drop (j + 1)) (j + 1) f1 f2 t1 t2) = placedsP ks kids 0 f1 f2 t1 t2) := Lib.hid (by
                rw [← HPL.out]
                rw [if_neg h0, if_neg h0]
                rw [if_pos h1, if_pos h1, List.getD_eq_getElem?_getD (i := j), hkb]
                try rfl)
              have hb0 : ¬ (0 : Int) < (j : Int) := by omega
              have HYB := Lib.hid (fun z (hz : Fr nob w z) => (show World.cell? z (gk.add j) = some (.int .i64 kb) from by
                obtain ⟨g9, e9, _, hat9⟩ := (HP.out.2.1.fr hz (fun _ _ _ x => x)).at (by have := HKS.out; have := HLT.out; omega)
                have e9 : gk = g9 := by simpa using e9
                subst e9
                exact hat9 j _ (by unfold intC; rw [List.getElem?_map, hkb]; rfl)))
              have hb1 : ((j : Nat) : Int) < (ks.length : Int) := by omega
              have H0 : Heap w w7 ([blkP bx 92 #[.bool f1, .int .i64 f2], blkP by' 92 #[.bool t1, .int .i64 t2]] ++ ([blkP b4 33 #[.bool kd.lf, .bool kd.tg, .slice kp1 kd.ps.length kp2, .slice kp3 kd.ks.length kp4, .slice kp5 kd.kids.length kp6]] ++ [blkP b3 92 #[.bool t1, .int .i64 t2], blkP b2 92 #[.bool f1, .int .i64 f2], blkP b1 33 #[.bool lf, .bool tg, .slice ap ps.length cp, .slice (some gk) ks.length ck, .slice (some g1) kids.length cc]])) := HH.out
              have x3 : World.cell? w7 ⟨b1, 3, none⟩ = some (.slice (some gk) ks.length ck) := (H0.blk 5 (b := b1) (t := 33) (c := #[.bool lf, .bool tg, .slice ap ps.length cp, .slice (some gk) ks.length ck, .slice (some g1) kids.length cc]) rfl).cell 3
              have H8 := Lib.hid H0
              clear H0 HH R2 hkb hatk
              go_upto_region 21 with fail
              clear x3
              obtain ⟨w8, hw8⟩ : ∃ z, w7 = z := ⟨_, rfl⟩
              rw [hw8] at H8 ⊢
              clear hw8
              have H8 : Heap w w8 ([blkP bx 92 #[.bool f1, .int .i64 f2], blkP by' 92 #[.bool t1, .int .i64 t2]] ++ ([blkP b4 33 #[.bool kd.lf, .bool kd.tg, .slice kp1 kd.ps.length kp2, .slice kp3 kd.ks.length kp4, .slice kp5 kd.kids.length kp6]] ++ [blkP b3 92 #[.bool t1, .int .i64 t2], blkP b2 92 #[.bool f1, .int .i64 f2], blkP b1 33 #[.bool lf, .bool tg, .slice ap ps.length cp, .slice (some gk) ks.length ck, .slice (some g1) kids.length cc]])) := H8.out
              have x3 := (H8.blk 5 (b := b1) (t := 33) (c := #[.bool lf, .bool tg, .slice ap ps.length cp, .slice (some gk) ks.length ck, .slice (some g1) kids.length cc]) rfl).cell 3
              have yb := HYB.out _ H8.fr
              have BB := H8.blk 1 (b := by') (t := 92) (c := #[.bool t1, .int .i64 t2]) rfl
              have c0 := BB.cell 0
              have c1 := BB.cell 1
              have fc0 := BB.froz 0
              have fc1 := BB.froz 1
              have H9 := Lib.hid ((H8.setCell 1 rfl 0 (.bool true)).setCell 1 rfl 1 (.int .i64 kb))
              clear BB
              clear H8
              go_upto_region 23 with fail
              clear c0 c1 fc0 fc1 yb x3
              obtain ⟨w9', hw9⟩ : ∃ z, (w8.setCell ⟨by', 0, none⟩ (.bool true)).setCell ⟨by', 1, none⟩ (.int .i64 kb) = z := ⟨_, rfl⟩
              rw [hw9] at H9 ⊢
              clear hw9
              have H9 : Heap w w9' ([blkP bx 92 #[.bool f1, .int .i64 f2], blkP by' 92 #[.bool true, .int .i64 kb]] ++ ([blkP b4 33 #[.bool kd.lf, .bool kd.tg, .slice kp1 kd.ps.length kp2, .slice kp3 kd.ks.length kp4, .slice kp5 kd.kids.length kp6]] ++ [blkP b3 92 #[.bool t1, .int .i64 t2], blkP b2 92 #[.bool f1, .int .i64 f2], blkP b1 33 #[.bool lf, .bool tg, .slice ap ps.length cp, .slice (some gk) ks.length ck, .slice (some g1) kids.length cc]])) := H9.out
              have BA := H9.blk 0 (b := bx) (t := 92) (c := #[.bool f1, .int .i64 f2]) rfl
              have a0 := BA.cell 0
              have a1 := BA.cell 1
              have BB := H9.blk 1 (b := by') (t := 92) (c := #[.bool true, .int .i64 kb]) rfl
              have c0 := BB.cell 0
              have c1 := BB.cell 1
              have BK := H9.blk 2 (b := b4) (t := 33) (c := #[.bool kd.lf, .bool kd.tg, .slice kp1 kd.ps.length kp2, .slice kp3 kd.ks.length kp4, .slice kp5 kd.kids.length kp6]) rfl
              have y0 := BK.cell 0
              have y1 := BK.cell 1
              have y2 := BK.cell 2
              have y3 := BK.cell 3
              have y4 := BK.cell 4
              have HB9 := Lib.hid (Heap.mid (l := []) (m := [blkP bx 92 #[.bool f1, .int .i64 f2], blkP by' 92 #[.bool true, .int .i64 kb], blkP b4 33 #[.bool kd.lf, .bool kd.tg, .slice kp1 kd.ps.length kp2, .slice kp3 kd.ks.length kp4, .slice kp5 kd.kids.length kp6]]) H9)
              clear BA BB BK H9
              have CAX := Lib.hid (HIHC.out f1 f2 true kb w9' HB9.out.fr)
              go_wp2_with fail
              refine CAX.out.mono ?_
              rintro e5 w5 ⟨rfl, F5⟩
              have HX := Lib.hid (HB9.out.go F5)
              clear CAX F5 a0 a1 c0 c1 y0 y1 y2 y3 y4 HB9
              cases hpd : placedP kd f1 f2 true kb with
              | false =>
                have HPE : Hid (placedP (.mk lf tg ps ks kids) f1 f2 t1 t2 = false) := Lib.hid (by rw [HPT.out.1, ← HPX.out, hpd]; rfl)
                clear hpd
                go_wp2_with fail
                go_ret
                exact ⟨by rw [HPE.out]; rfl, HX.out.fr⟩
              | true =>
                have HPN : Hid (placedsP ks (kids.drop (j + 1)) (j + 1) f1 f2 t1 t2 = placedsP ks kids 0 f1 f2 t1 t2) := Lib.hid (by rw [← HPX.out, hpd]; rfl)
                clear hpd
                go_wp2_with fail
                exact ⟨⟨j + 1, by go_num, by have := HLT.out; omega, Lib.hid ⟨HPN.out, HX.out⟩⟩, by have := HLT.out; simp [intOf]; omega⟩
          · rcases hj1c with h1 | h1
            · obtain ⟨i2, rfl⟩ : ∃ i2, j = i2 + 1 := ⟨j - 1, by omega⟩
              obtain ⟨ka, hka⟩ : ∃ x, ks[i2]? = some x := ⟨_, List.getElem?_eq_getElem (by have := HKS.out; have := HLT.out; omega)⟩
              obtain ⟨gk, rfl, _, hatk⟩ := R2.at (by have := HKS.out; have := HLT.out; omega)
              have HPX : Hid ((placedP kd true ka t1 t2 && placedsP ks (kids.drop ((i2 + 1) + 1)) ((i2 + 1) + 1) f1 f2 t1 t2) = placedsP ks kids 0 f1 f2 t1 t2) := Lib.hid (by
                rw [← HPL.out]
                rw [if_pos (Nat.succ_pos i2), if_pos (Nat.succ_pos i2), Nat.add_sub_cancel, List.getD_eq_getElem?_getD, hka]
                rw [if_neg h1, if_neg h1]
                try rfl)
              have ya : World.cell? w7 (gk.add i2) = some (.int .i64 ka) := hatk i2 _ (by unfold intC; rw [List.getElem?_map, hka]; rfl)
              have hb0 : (0 : Int) < ((i2 + 1 : Nat) : Int) := by omega
              have hb2 : (i2 : Int) < (ks.length : Int) := by have := HKS.out; have := HLT.out; omega
              have hb1 : ¬ (((i2 + 1) : Nat) : Int) < (ks.length : Int) := by omega
              have H0 : Heap w w7 ([blkP bx 92 #[.bool f1, .int .i64 f2], blkP by' 92 #[.bool t1, .int .i64 t2]] ++ ([blkP b4 33 #[.bool kd.lf, .bool kd.tg, .slice kp1 kd.ps.length kp2, .slice kp3 kd.ks.length kp4, .slice kp5 kd.kids.length kp6]] ++ [blkP b3 92 #[.bool t1, .int .i64 t2], blkP b2 92 #[.bool f1, .int .i64 f2], blkP b1 33 #[.bool lf, .bool tg, .slice ap ps.length cp, .slice (some gk) ks.length ck, .slice (some g1) kids.length cc]])) := HH.out
              have x3 : World.cell? w7 ⟨b1, 3, none⟩ = some (.slice (some gk) ks.length ck) := (H0.blk 5 (b := b1) (t := 33) (c := #[.bool lf, .bool tg, .slice ap ps.length cp, .slice (some gk) ks.length ck, .slice (some g1) kids.length cc]) rfl).cell 3
              have BA := H0.blk 0 (b := bx) (t := 92) (c := #[.bool f1, .int .i64 f2]) rfl
              have a0 := BA.cell 0
              have a1 := BA.cell 1
              have fa0 := BA.froz 0
              have fa1 := BA.froz 1
              have H8 := Lib.hid ((H0.setCell 0 rfl 0 (.bool true)).setCell 0 rfl 1 (.int .i64 ka))
              clear BA
              clear H0 HH R2 hka hatk
              go_upto_region 21 with fail
              clear a0 a1 fa0 fa1 ya x3
              obtain ⟨w8, hw8⟩ : ∃ z, (w7.setCell ⟨bx, 0, none⟩ (.bool true)).setCell ⟨bx, 1, none⟩ (.int .i64 ka) = z := ⟨_, rfl⟩
              rw [hw8] at H8 ⊢
              clear hw8
              have H8 : Heap w w8 ([blkP bx 92 #[.bool true, .int .i64 ka], blkP by' 92 #[.bool t1, .int .i64 t2]] ++ ([blkP b4 33 #[.bool kd.lf, .bool kd.tg, .slice kp1 kd.ps.length kp2, .slice kp3 kd.ks.length kp4, .slice kp5 kd.kids.length kp6]] ++ [blkP b3 92 #[.bool t1, .int .i64 t2], blkP b2 92 #[.bool f1, .int .i64 f2], blkP b1 33 #[.bool lf, .bool tg, .slice ap ps.length cp, .slice (some gk) ks.length ck, .slice (some g1) kids.length cc]])) := H8.out
              have x3 := (H8.blk 5 (b := b1) (t := 33) (c := #[.bool lf, .bool tg, .slice ap ps.length cp, .slice (some gk) ks.length ck, .slice (some g1) kids.length cc]) rfl).cell 3
              have H9 := Lib.hid H8
              clear H8
              go_upto_region 23 with fail
              clear x3
              obtain ⟨w9', hw9⟩ : ∃ z, w8 = z := ⟨_, rfl⟩
              rw [hw9] at H9 ⊢
              clear hw9
              have H9 : Heap w w9' ([blkP bx 92 #[.bool true, .int .i64 ka], blkP by' 92 #[.bool t1, .int .i64 t2]] ++ ([blkP b4 33 #[.bool kd.lf, .bool kd.tg, .slice kp1 kd.ps.length kp2, .slice kp3 kd.ks.length kp4, .slice kp5 kd.kids.length kp6]] ++ [blkP b3 92 #[.bool t1, .int .i64 t2], blkP b2 92 #[.bool f1, .int .i64 f2], blkP b1 33 #[.bool lf, .bool tg, .slice ap ps.length cp, .slice (some gk) ks.length ck, .slice (some g1) kids.length cc]])) := H9.out
              have BA := H9.blk 0 (b := bx) (t := 92) (c := #[.bool true, .int .i64 ka]) rfl
              have a0 := BA.cell 0
              have a1 := BA.cell 1
              have BB := H9.blk 1 (b := by') (t := 92) (c := #[.bool t1, .int .i64 t2]) rfl
              have c0 := BB.cell 0
              have c1 := BB.cell 1
              have BK := H9.blk 2 (b := b4) (t := 33) (c := #[.bool kd.lf, .bool kd.tg, .slice kp1 kd.ps.length kp2, .slice kp3 kd.ks.length kp4, .slice kp5 kd.kids.length kp6]) rfl
              have y0 := BK.cell 0
              have y1 := BK.cell 1
              have y2 := BK.cell 2
              have y3 := BK.cell 3
              have y4 := BK.cell 4
              have HB9 := Lib.hid (Heap.mid (l := []) (m := [blkP bx 92 #[.bool true, .int .i64 ka], blkP by' 92 #[.bool t1, .int .i64 t2], blkP b4 33 #[.bool kd.lf, .bool kd.tg, .slice kp1 kd.ps.length kp2, .slice kp3 kd.ks.length kp4, .slice kp5 kd.kids.length kp6]]) H9)
              clear BA BB BK H9
              have CAX := Lib.hid (HIHC.out true ka t1 t2 w9' HB9.out.fr)
              go_wp2_with fail
              refine CAX.out.mono ?_
              rintro e5 w5 ⟨rfl, F5⟩
              have HX := Lib.hid (HB9.out.go F5)
              clear CAX F5 a0 a1 c0 c1 y0 y1 y2 y3 y4 HB9
              cases hpd : placedP kd true ka t1 t2 with
              | false =>
                have HPE : Hid (placedP (.mk lf tg ps ks kids) f1 f2 t1 t2 = false) := Lib.hid (by rw [HPT.out.1, ← HPX.out, hpd]; rfl)
                clear hpd
                go_wp2_with fail
                go_ret
                exact ⟨by rw [HPE.out]; rfl, HX.out.fr⟩
              | true =>
                have HPN : Hid (placedsP ks (kids.drop ((i2 + 1) + 1)) ((i2 + 1) + 1) f1 f2 t1 t2 = placedsP ks kids 0 f1 f2 t1 t2) := Lib.hid (by rw [← HPX.out, hpd]; rfl)
                clear hpd
                go_wp2_with fail
                exact ⟨⟨(i2 + 1) + 1, by go_num, by have := HLT.out; omega, Lib.hid ⟨HPN.out, HX.out⟩⟩, by have := HLT.out; simp [intOf]; omega⟩
            · obtain ⟨i2, rfl⟩ : ∃ i2, j = i2 + 1 := ⟨j - 1, by omega⟩
              obtain ⟨ka, hka⟩ : ∃ x, ks[i2]? = some x := ⟨_, List.getElem?_eq_getElem (by have := HKS.out; have := HLT.out; omega)⟩
              obtain ⟨kb, hkb⟩ : ∃ x, ks[(i2 + 1)]? = some x := ⟨_, List.getElem?_eq_getElem h1⟩
              obtain ⟨gk, rfl, _, hatk⟩ := R2.at (by have := HKS.out; have := HLT.out; omega)
              have HPX : Hid ((placedP kd true ka true kb && placedsP ks (kids.drop ((i2 + 1) + 1)) ((i2 + 1) + 1) f1 f2 t1 t2) = placedsP ks kids 0 f1 f2 t1 t2) := Lib.hid (by
                rw [← HPL.out]
                rw [if_pos (Nat.succ_pos i2), if_pos (Nat.succ_pos i2), Nat.add_sub_cancel, List.getD_eq_getElem?_getD, hka]
                rw [if_pos h1, if_pos h1, List.getD_eq_getElem?_getD (i := (i2 + 1)), hkb]
                try rfl)
              have ya : World.cell? w7 (gk.add i2) = some (.int .i64 ka) := hatk i2 _ (by unfold intC; rw [List.getElem?_map, hka]; rfl)
              have hb0 : (0 : Int) < ((i2 + 1 : Nat) : Int) := by omega
              have hb2 : (i2 : Int) < (ks.length : Int) := by have := HKS.out; have := HLT.out; omega
              have HYB := Lib.hid (fun z (hz : Fr nob w z) => (show World.cell? z (gk.add (i2 + 1)) = some (.int .i64 kb) from by
                obtain ⟨g9, e9, _, hat9⟩ := (HP.out.2.1.fr hz (fun _ _ _ x => x)).at (by have := HKS.out; have := HLT.out; omega)
                have e9 : gk = g9 := by simpa using e9
                subst e9
                exact hat9 (i2 + 1) _ (by unfold intC; rw [List.getElem?_map, hkb]; rfl)))
              have hb1 : (((i2 + 1) : Nat) : Int) < (ks.length : Int) := by omega
              have H0 : Heap w w7 ([blkP bx 92 #[.bool f1, .int .i64 f2], blkP by' 92 #[.bool t1, .int .i64 t2]] ++ ([blkP b4 33 #[.bool kd.lf, .bool kd.tg, .slice kp1 kd.ps.length kp2, .slice kp3 kd.ks.length kp4, .slice kp5 kd.kids.length kp6]] ++ [blkP b3 92 #[.bool t1, .int .i64 t2], blkP b2 92 #[.bool f1, .int .i64 f2], blkP b1 33 #[.bool lf, .bool tg, .slice ap ps.length cp, .slice (some gk) ks.length ck, .slice (some g1) kids.length cc]])) := HH.out
              have x3 : World.cell? w7 ⟨b1, 3, none⟩ = some (.slice (some gk) ks.length ck) := (H0.blk 5 (b := b1) (t := 33) (c := #[.bool lf, .bool tg, .slice ap ps.length cp, .slice (some gk) ks.length ck, .slice (some g1) kids.length cc]) rfl).cell 3
              have BA := H0.blk 0 (b := bx) (t := 92) (c := #[.bool f1, .int .i64 f2]) rfl
              have a0 := BA.cell 0
              have a1 := BA.cell 1
              have fa0 := BA.froz 0
              have fa1 := BA.froz 1
              have H8 := Lib.hid ((H0.setCell 0 rfl 0 (.bool true)).setCell 0 rfl 1 (.int .i64 ka))
              clear BA
              clear H0 HH R2 hka hkb hatk
              go_upto_region 21 with fail
              clear a0 a1 fa0 fa1 ya x3
              obtain ⟨w8, hw8⟩ : ∃ z, (w7.setCell ⟨bx, 0, none⟩ (.bool true)).setCell ⟨bx, 1, none⟩ (.int .i64 ka) = z := ⟨_, rfl⟩
              rw [hw8] at H8 ⊢
              clear hw8
              have H8 : Heap w w8 ([blkP bx 92 #[.bool true, .int .i64 ka], blkP by' 92 #[.bool t1, .int .i64 t2]] ++ ([blkP b4 33 #[.bool kd.lf, .bool kd.tg, .slice kp1 kd.ps.length kp2, .slice kp3 kd.ks.length kp4, .slice kp5 kd.kids.length kp6]] ++ [blkP b3 92 #[.bool t1, .int .i64 t2], blkP b2 92 #[.bool f1, .int .i64 f2], blkP b1 33 #[.bool lf, .bool tg, .slice ap ps.length cp, .slice (some gk) ks.length ck, .slice (some g1) kids.length cc]])) := H8.out
              have x3 := (H8.blk 5 (b := b1) (t := 33) (c := #[.bool lf, .bool tg, .slice ap ps.length cp, .slice (some gk) ks.length ck, .slice (some g1) kids.length cc]) rfl).cell 3
              have yb : World.cell? w8 ⟨gk.block, gk.off + (i2 + 1), none⟩ = some (.int .i64 kb) := by have := HYB.out _ H8.fr; simpa [Addr.add] using this
              have BB := H8.blk 1 (b := by') (t := 92) (c := #[.bool t1, .int .i64 t2]) rfl
              have c0 := BB.cell 0
              have c1 := BB.cell 1
              have fc0 := BB.froz 0
              have fc1 := BB.froz 1
              have H9 := Lib.hid ((H8.setCell 1 rfl 0 (.bool true)).setCell 1 rfl 1 (.int .i64 kb))
              clear BB
              clear H8
              go_upto_region 23 with fail
              clear c0 c1 fc0 fc1 yb x3
              obtain ⟨w9', hw9⟩ : ∃ z, (w8.setCell ⟨by', 0, none⟩ (.bool true)).setCell ⟨by', 1, none⟩ (.int .i64 kb) = z := ⟨_, rfl⟩
              rw [hw9] at H9 ⊢
              clear hw9
              have H9 : Heap w w9' ([blkP bx 92 #[.bool true, .int .i64 ka], blkP by' 92 #[.bool true, .int .i64 kb]] ++ ([blkP b4 33 #[.bool kd.lf, .bool kd.tg, .slice kp1 kd.ps.length kp2, .slice kp3 kd.ks.length kp4, .slice kp5 kd.kids.length kp6]] ++ [blkP b3 92 #[.bool t1, .int .i64 t2], blkP b2 92 #[.bool f1, .int .i64 f2], blkP b1 33 #[.bool lf, .bool tg, .slice ap ps.length cp, .slice (some gk) ks.length ck, .slice (some g1) kids.length cc]])) := H9.out
              have BA := H9.blk 0 (b := bx) (t := 92) (c := #[.bool true, .int .i64 ka]) rfl
              have a0 := BA.cell 0
              have a1 := BA.cell 1
              have BB := H9.blk 1 (b := by') (t := 92) (c := #[.bool true, .int .i64 kb]) rfl
              have c0 := BB.cell 0
              have c1 := BB.cell 1
              have BK := H9.blk 2 (b := b4) (t := 33) (c := #[.bool kd.lf, .bool kd.tg, .slice kp1 kd.ps.length kp2, .slice kp3 kd.ks.length kp4, .slice kp5 kd.kids.length kp6]) rfl
              have y0 := BK.cell 0
              have y1 := BK.cell 1
              have y2 := BK.cell 2
              have y3 := BK.cell 3
              have y4 := BK.cell 4
              have HB9 := Lib.hid (Heap.mid (l := []) (m := [blkP bx 92 #[.bool true, .int .i64 ka], blkP by' 92 #[.bool true, .int .i64 kb], blkP b4 33 #[.bool kd.lf, .bool kd.tg, .slice kp1 kd.ps.length kp2, .slice kp3 kd.ks.length kp4, .slice kp5 kd.kids.length kp6]]) H9)
              clear BA BB BK H9
              have CAX := Lib.hid (HIHC.out true ka true kb w9' HB9.out.fr)
              go_wp2_with fail
              refine CAX.out.mono ?_
              rintro e5 w5 ⟨rfl, F5⟩
              have HX := Lib.hid (HB9.out.go F5)
              clear CAX F5 a0 a1 c0 c1 y0 y1 y2 y3 y4 HB9
              cases hpd : placedP kd true ka true kb with
              | false =>
                have HPE : Hid (placedP (.mk lf tg ps ks kids) f1 f2 t1 t2 = false) := Lib.hid (by rw [HPT.out.1, ← HPX.out, hpd]; rfl)
                clear hpd
                go_wp2_with fail
                go_ret
                exact ⟨by rw [HPE.out]; rfl, HX.out.fr⟩
              | true =>
                have HPN : Hid (placedsP ks (kids.drop ((i2 + 1) + 1)) ((i2 + 1) + 1) f1 f2 t1 t2 = placedsP ks kids 0 f1 f2 t1 t2) := Lib.hid (by rw [← HPX.out, hpd]; rfl)
                clear hpd
                go_wp2_with fail
                exact ⟨⟨(i2 + 1) + 1, by go_num, by have := HLT.out; omega, Lib.hid ⟨HPN.out, HX.out⟩⟩, by have := HLT.out; simp [intOf]; omega⟩
        · obtain rfl : j = kids.length := by omega
          rw [List.drop_length, placedsP] at hpl
          have HPE : Hid (placedP (.mk lf tg ps ks kids) f1 f2 t1 t2 = true) := Lib.hid (by rw [HPT.out.1, ← hpl])
          clear hpl
          go_wp2_with fail
          go_ret
          exact ⟨by rw [HPE.out]; rfl, HH.out.fr⟩
theorem placed_h : ∀ (d : Nat), d ≤ 1000 → ∀ (w : World) (S : Nat → Prop) (s : Sh) (v : Sv) (f1 : Bool) (f2 : Int) (t1 : Bool) (t2 : Int) (_ : ShIn w S s v) (_ : dpSh s ≤ d) (_ : SzSh 100000 s), Calls Try.prog 47 #[shV s v, bdV f1 f2, bdV t1 t2] w (plcPost w (placedP s f1 f2 t1 t2))
  | 0, hd, w, S, s, v, f1, f2, t1, t2, h, hdp, hz => placed_step 0 hd (fun e he => by omega) w S s v f1 f2 t1 t2 h hdp hz
  | d + 1, hd, w, S, s, v, f1, f2, t1, t2, h, hdp, hz => placed_step (d + 1) hd (fun e he => by
      obtain rfl : d = e := by omega
      exact placed_h d (by omega)) w S s v f1 f2 t1 t2 h hdp hz
end Go.Proofs.Ytkbnoceekileiaa
