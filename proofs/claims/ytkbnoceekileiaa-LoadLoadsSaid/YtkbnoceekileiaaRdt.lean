/- boscagelaw11.read: a tree is read out of an arena. No condition but the bounds of size. -/
import Derived.Test.YtkbnoceekileiaaMrg
import Derived.Test.YtkbnoceekileiaaUp
import Derived.Deep.DeepCutAuto
import Derived.Deep.CutRange
namespace Go.Proofs.Ytkbnoceekileiaa
open Go Go.RowKit
set_option linter.unusedVariables false
set_option linter.unusedSimpArgs false
set_option maxRecDepth 100000
theorem info_shape : (Try.prog.info? 33).map (fun i => (i.zero, i.size, i.bytes)) = some (some (.agg #[.bool false, .bool false, .slice none 0 0, .slice none 0 0, .slice none 0 0]), 5, 80) := by kernel_rfl
theorem zip_next {kids : List Sh} {cs : List Sv} {j : Nat} {s : Sh} {c : Sv} (hs : kids[j]? = some s) (hl : cs.length = j) : ((kids.take (j + 1)).zip (cs ++ [c])).flatMap shC = ((kids.take j).zip cs).flatMap shC ++ shC (s, c) := by
  have hj := (List.getElem?_eq_some_iff.1 hs).1
  rw [List.take_add_one, hs]
  show ((kids.take j ++ [s]).zip (cs ++ [c])).flatMap shC = _
  rw [List.zip_append (by rw [List.length_take, hl]; omega), List.flatMap_append]
  simp
theorem InAr.look {ar : Ar} {lf tg : Bool} {ps : List (Int × Int)} {ks : List Int} {kids : List Sh} {r : Int} {N : Nat} (h : InAr ar (.mk lf tg ps ks kids) r) (hok : OkN ar N) : ∃ (p : Nat) (inn : Bool) (wys : List Int), lf = !inn ∧ arAt ar r = some p ∧ lookAr r ar = (⟨inn, tg, ps, ks, wys⟩, ar) ∧ wys.length = kids.length ∧ (ar.at p).ways.length = kids.length ∧ InArs ar kids (ar.at p).ways ∧ ps.length ≤ 100000 ∧ ks.length ≤ 100000 ∧ kids.length ≤ 100000 := by
  unfold InAr at h
  obtain ⟨p, h1, h2, h3, h4, h5, h6, h7, h8⟩ := h
  have hp := (List.getElem?_eq_some_iff.1 (at_get h1)).1
  obtain ⟨f1, f2, f3⟩ := (hok.at hp).2
  refine ⟨p, (ar.at p).nd.inner, (ar.at p).nd.ways, by rw [h2]; simp, h1, ?_, h6, h7, h8, by rw [← h4]; exact f1, by rw [← h5]; exact f2, by rw [← h6]; exact f3⟩
  unfold lookAr
  rw [h1, ← h3, ← h4, ← h5]
theorem Heap.swap2 {w0 w : World} {a b : Piece} {L : List Piece} (h : Heap w0 w (a :: b :: L)) : Heap w0 w (b :: a :: L) := by
  refine h.idx (fun k => if k = 0 then 1 else if k = 1 then 0 else k) (fun k hk => ?_) (fun x y hx hy e => ?_)
  · rcases (by omega : k = 0 ∨ k = 1 ∨ 2 ≤ k) with rfl | rfl | h8
    · rfl
    · rfl
    · obtain ⟨k', rfl⟩ : ∃ k', k = k' + 2 := ⟨k - 2, by omega⟩
      rw [if_neg (by omega), if_neg (by omega)]
      rfl
  · (try simp only at e); split at e <;> (try split at e) <;> (try split at e) <;> (try split at e) <;> omega
theorem Heap.rot3 {w0 w : World} {a b c : Piece} {L : List Piece} (h : Heap w0 w (a :: b :: c :: L)) : Heap w0 w (c :: a :: b :: L) := by
  refine h.idx (fun k => if k = 0 then 2 else if k = 1 then 0 else if k = 2 then 1 else k) (fun k hk => ?_) (fun x y hx hy e => ?_)
  · rcases (by omega : k = 0 ∨ k = 1 ∨ k = 2 ∨ 3 ≤ k) with rfl | rfl | rfl | h8
    · rfl
    · rfl
    · rfl
    · obtain ⟨k', rfl⟩ : ∃ k', k = k' + 3 := ⟨k - 3, by omega⟩
      rw [if_neg (by omega), if_neg (by omega), if_neg (by omega)]
      rfl
  · (try simp only at e); split at e <;> (try split at e) <;> (try split at e) <;> (try split at e) <;> (try split at e) <;> (try split at e) <;> omega
theorem Heap.pick8 {w0 w : World} {a b c d e f g k0 : Piece} {L : List Piece} (h : Heap w0 w ([a, b] ++ ([c, d, e, f, g, k0] ++ L))) : Heap w0 w ([f, g, a, b] ++ L) := by
  refine h.idx (fun k => if k = 0 then 5 else if k = 1 then 6 else if k = 2 then 0 else if k = 3 then 1 else k + 4) (fun k hk => ?_) (fun x y hx hy e => ?_)
  · rcases (by omega : k = 0 ∨ k = 1 ∨ k = 2 ∨ k = 3 ∨ 4 ≤ k) with rfl | rfl | rfl | rfl | h8
    · rfl
    · rfl
    · rfl
    · rfl
    · obtain ⟨k', rfl⟩ : ∃ k', k = k' + 4 := ⟨k - 4, by omega⟩
      rw [if_neg (by omega), if_neg (by omega), if_neg (by omega), if_neg (by omega)]
      rfl
  · (try simp only at e); split at e <;> (try split at e) <;> (try split at e) <;> (try split at e) <;> (try split at e) <;> (try split at e) <;> (try split at e) <;> (try split at e) <;> omega
def readPost (w0 : World) (L : List Piece) (s : Sh) (e : Ending) (w' : World) : Prop := ∃ v : Sv, e = .returned (shV s v) ∧ Heap w0 w' (shP s v :: L)
set_option maxHeartbeats 200000000 in
theorem read_step (d : Nat) (hd1 : d ≤ 1000) (IH : ∀ e, d = e + 1 → ∀ {w0 w : World} {L : List Piece} {a : Nat} {ar : Ar} (_ : Heap w0 w L) (i : Nat) (_ : L[i]? = some (areP a ar)) (N : Nat) (_ : OkN ar N ∧ N ≤ 60000) (s : Sh) (r : Int) (_ : InAr ar s r) (_ : dpSh s ≤ e),
      Calls Try.prog 61 #[.pointer (some ⟨a, 0, none⟩), .int .i64 r, .int .i64 (e : Int)] w (readPost w0 L s))
    {w0 w : World} {L : List Piece} {a : Nat} {ar : Ar} (h : Heap w0 w L) (i : Nat) (hi : L[i]? = some (areP a ar)) (N : Nat) (hok : OkN ar N ∧ N ≤ 60000) (s : Sh) (r : Int) (hin : InAr ar s r) (hdp : dpSh s ≤ d) :
    Calls Try.prog 61 #[.pointer (some ⟨a, 0, none⟩), .int .i64 r, .int .i64 (d : Int)] w (readPost w0 L s) := by
  obtain ⟨lf, tg, ps, ks, kids⟩ := s
  obtain ⟨p, inn, wys, rfl, hat, hlk, hw, hw2, hins, fp, fk, fm⟩ := hin.look hok.1
  clear hin
  obtain ⟨m, hm⟩ : ∃ m, kids.length = m := ⟨_, rfl⟩
  obtain ⟨lp, hlp⟩ : ∃ m, ps.length = m := ⟨_, rfl⟩
  obtain ⟨lk, hlk2⟩ : ∃ m, ks.length = m := ⟨_, rfl⟩
  rw [hm] at hw hw2 fm
  rw [hlp] at fp
  rw [hlk2] at fk
  have H1 := h.allocF 33 #[.bool false, .bool false, .slice none 0 0, .slice none 0 0, .slice none 0 0]
  obtain ⟨b6, hb6⟩ : ∃ b, w.heap.size = b := ⟨_, rfl⟩
  obtain ⟨w1, hw1⟩ : ∃ b, w.alloc (.cells #[.bool false, .bool false, .slice none 0 0, .slice none 0 0, .slice none 0 0] 33) = b := ⟨_, rfl⟩
  rw [hb6, hw1] at H1
  have hi1 : ((blkP b6 33 #[.bool false, .bool false, .slice none 0 0, .slice none 0 0, .slice none 0 0]) :: L)[i + 1]? = some (areP a ar) := hi
  have CL := Look_h H1 (i + 1) hi1 (hok.1.ok hok.2) hok.1.nds r
  rw [hlk, areP_set hi1] at CL
  have CL : Calls Try.prog 55 #[.pointer (some ⟨a, 0, none⟩), .int .i64 r] w1 fun e w' => ∃ vp vk vn, e = .returned (.agg #[.bool inn, .bool tg, vp, vk, vn]) ∧ Heap w0 w' (((blkP b6 33 #[.bool false, .bool false, .slice none 0 0, .slice none 0 0, .slice none 0 0]) :: L) ++ [rowP 77 2 vp lp (pairC ps), rowP 2 1 vk lk (intC ks), rowP 65 1 vn m (intC wys)]) := by
    refine CL.mono ?_
    rintro e w' ⟨vp, vk, vn, rfl, h2⟩
    refine ⟨vp, vk, vn, rfl, ?_⟩
    rw [← hlp, ← hlk2, ← hw]
    exact h2
  have CL := Lib.hid CL
  have HI := Lib.hid (And.intro hi (And.intro hok hat))
  have HM := Lib.hid (And.intro hm (And.intro hdp (And.intro hw2 hins)))
  have HLN := Lib.hid (And.intro hlp hlk2)
  have HWW := Lib.hid (And.intro hb6 hw1)
  have HIH := Lib.hid @IH
  clear IH
  obtain ⟨i0, hi0, hz0, hz1, hz2⟩ := info_parts info_shape
  have I0 := Lib.hid (And.intro hi0 (And.intro hz0 (And.intro hz1 hz2)))
  clear hi0 hz0 hz1 hz2 H1 h hi hok hat hm hdp hw2 hins hw hlk hlp hlk2 hb6 hw1 hi1
  go_enter Try.func61, Try.ntmps61
  go_upto_region 1 with fail
  rw [HWW.out.1, HWW.out.2]
  clear HWW
  go_wp2_with fail
  refine CL.out.mono ?_
  rintro e w2 ⟨vp, vk, vn, rfl, H2⟩
  clear CL
  have H2 := Heap.swapF H2
  obtain ⟨ap, cp, rfl, _⟩ := (H2.row 0 rfl).form
  obtain ⟨ak, ck, rfl, _⟩ := (H2.row 1 rfl).form
  obtain ⟨an, cn, rfl, _⟩ := (H2.row 2 rfl).form
  have H3 := H2.allocF 112 #[.bool inn, .bool tg, .slice ap lp cp, .slice ak lk ck, .slice an m cn]
  obtain ⟨b7, hb7⟩ : ∃ b, w2.heap.size = b := ⟨_, rfl⟩
  obtain ⟨w3, hw3⟩ : ∃ b, w2.alloc (.cells #[.bool inn, .bool tg, .slice ap lp cp, .slice ak lk ck, .slice an m cn] 112) = b := ⟨_, rfl⟩
  rw [hb7, hw3] at H3
  have B7 := H3.blk 0 rfl
  have n0 := B7.cell 0
  have n1 := B7.cell 1
  have n2 := B7.cell 2
  have n3 := B7.cell 3
  have n4 := B7.cell 4
  have H4 := H3.allocF 33 #[.bool (!inn), .bool tg, .slice ap lp cp, .slice ak lk ck, .slice none 0 0]
  obtain ⟨b8, hb8⟩ : ∃ b, w3.heap.size = b := ⟨_, rfl⟩
  obtain ⟨w4, hw4⟩ : ∃ b, w3.alloc (.cells #[.bool (!inn), .bool tg, .slice ap lp cp, .slice ak lk ck, .slice none 0 0] 33) = b := ⟨_, rfl⟩
  rw [hb8, hw4] at H4
  have HWW := Lib.hid (And.intro hb7 (And.intro hw3 (And.intro hb8 hw4)))
  have B7 := H4.blk 1 rfl
  have q4 := B7.cell 4
  have H5 := H4.shsNil.rowNilF 33 5
  have HH : Hid (Heap w0 w4 ([rowP 33 5 (.slice none 0 0) 0 (((kids.take 0).zip []).flatMap shC), shsP (kids.take 0) []] ++ ([blkP b8 33 #[.bool (!inn), .bool tg, .slice ap lp cp, .slice ak lk ck, .slice none 0 0], blkP b7 112 #[.bool inn, .bool tg, .slice ap lp cp, .slice ak lk ck, .slice an m cn], blkP b6 33 #[.bool false, .bool false, .slice none 0 0, .slice none 0 0, .slice none 0 0], rowP 77 2 (.slice ap lp cp) lp (pairC ps), rowP 2 1 (.slice ak lk ck) lk (intC ks), rowP 65 1 (.slice an m cn) m (intC wys)] ++ L))) := Lib.hid (by
    refine (H5.idx (fun k => if k = 4 then 7 else if k = 5 then 4 else if k = 6 then 5 else if k = 7 then 6 else k) (fun k hk => ?_) (fun x y hx hy e => ?_))
    · rcases (by omega : k = 0 ∨ k = 1 ∨ k = 2 ∨ k = 3 ∨ k = 4 ∨ k = 5 ∨ k = 6 ∨ k = 7 ∨ 8 ≤ k) with rfl | rfl | rfl | rfl | rfl | rfl | rfl | rfl | h8
      · rfl
      · rfl
      · rfl
      · rfl
      · rfl
      · rfl
      · rfl
      · rfl
      · obtain ⟨k', rfl⟩ : ∃ k', k = k' + 8 := ⟨k - 8, by omega⟩
        rw [if_neg (by omega), if_neg (by omega), if_neg (by omega), if_neg (by omega)]
        rfl
    · (try simp only at e); split at e <;> (try split at e) <;> (try split at e) <;> (try split at e) <;> (try split at e) <;> (try split at e) <;> (try split at e) <;> (try split at e) <;> omega)
  clear H2 H3 H4 H5 B7 hb7 hw3 hb8 hw4
  go_upto_region 2 with fail
  rw [HWW.out.1, HWW.out.2.1]
  go_upto_region 3 with fail
  rw [HWW.out.2.2.1, HWW.out.2.2.2]
  clear HWW n0 n1 n2 n3 n4
  by_cases hd0 : d = 0
  · obtain rfl : m = 0 := by
      have h1 := HM.out.1
      have h2 := HM.out.2.1
      match kids, h1, h2 with
      | [], h1, _ => simpa using h1.symm
      | s :: l, _, h2 => rw [dpSh] at h2; rw [dpShs] at h2; omega
    subst hd0
    obtain rfl : kids = [] := List.eq_nil_of_length_eq_zero HM.out.1
    have B8 := HH.out.blk 2 (b := b8) (t := 33) (c := #[.bool (!inn), .bool tg, .slice ap lp cp, .slice ak lk ck, .slice none 0 0]) rfl
    have o0 := B8.cell 0
    have o1 := B8.cell 1
    have o2 := B8.cell 2
    have o3 := B8.cell 3
    have o4 := B8.cell 4
    have B6 := HH.out.blk 4 (b := b6) (t := 33) (c := #[.bool false, .bool false, .slice none 0 0, .slice none 0 0, .slice none 0 0]) rfl
    have p0 := B6.cell 0
    have p1 := B6.cell 1
    have p2 := B6.cell 2
    have p3 := B6.cell 3
    have p4 := B6.cell 4
    have f0 := B6.froz 0
    have f1 := B6.froz 1
    have f2 := B6.froz 2
    have f3 := B6.froz 3
    have f4 := B6.froz 4
    have HX := ((((HH.out.setCell 4 rfl 0 (.bool (!inn))).setCell 4 rfl 1 (.bool tg)).setCell 4 rfl 2 (.slice ap lp cp)).setCell 4 rfl 3 (.slice ak lk ck)).setCell 4 rfl 4 (.slice none 0 0)
    have BX := HX.blk 4 (b := b6) (t := 33) (c := #[.bool (!inn), .bool tg, .slice ap lp cp, .slice ak lk ck, .slice none 0 0]) rfl
    have HX := Lib.hid HX
    have HBX := Lib.hid BX
    have HHL := Lib.hid HH
    clear B8 B6 BX HH
    go_upto_region 9 with fail
    go_wp2_with fail

    have x0 := HBX.out.cell 0
    have x1 := HBX.out.cell 1
    have x2 := HBX.out.cell 2
    have x3 := HBX.out.cell 3
    have x4 := HBX.out.cell 4
    refine bodyPost_ret (v := .agg #[.bool (!inn), .bool tg, .slice ap lp cp, .slice ak lk ck, .slice none 0 0]) (by simp [results, Try.results61, go_sem, x0, x1, x2, x3, x4]) rfl ?_
    refine ⟨⟨.slice ap lp cp, .slice ak lk ck, .slice none 0 0⟩, rfl, ?_⟩
    have HY := HX.out.pick8
    rw [← HLN.out.1, ← HLN.out.2] at HY ⊢
    exact Heap.shMake rfl HY
  · obtain ⟨e, he⟩ : ∃ e, d = e + 1 := ⟨d - 1, by omega⟩
    have hdn : 0 < d := by omega
    have hdi : (0 : Int) < (d : Int) := by omega
    have HDE := Lib.hid he
    clear he
    go_wp2_with fail
    go_loopw [30] (fun q wr => ∃ (j : Nat) (ac : Option Addr) (cc : Nat) (cs : List Sv), q = .int .i64 (j : Nat) ∧ j ≤ m ∧ Hid (cs.length = j ∧ Heap w0 wr ([rowP 33 5 (.slice ac j cc) j (((kids.take j).zip cs).flatMap shC), shsP (kids.take j) cs] ++ ([blkP b8 33 #[.bool (!inn), .bool tg, .slice ap lp cp, .slice ak lk ck, .slice ac j cc], blkP b7 112 #[.bool inn, .bool tg, .slice ap lp cp, .slice ak lk ck, .slice an m cn], blkP b6 33 #[.bool false, .bool false, .slice none 0 0, .slice none 0 0, .slice none 0 0], rowP 77 2 (.slice ap lp cp) lp (pairC ps), rowP 2 1 (.slice ak lk ck) lk (intC ks), rowP 65 1 (.slice an m cn) m (intC wys)] ++ L)))) (fun q _ => m - (intOf q).toNat)
    case atStart => exact ⟨0, none, 0, [], rfl, Nat.zero_le _, Lib.hid ⟨rfl, HH.out⟩⟩
    case round =>
    clear HH q4
    obtain ⟨j, ac, cc, cs, rfl, hj, HQ⟩ := hrel
    by_cases hlt : j < m
    · obtain ⟨kd, hkd⟩ : ∃ x, kids[j]? = some x := ⟨_, List.getElem?_eq_getElem (by rw [HM.out.1]; exact hlt)⟩
      obtain ⟨rj, hrj, hinj⟩ := InArs.at kids _ j kd HM.out.2.2.2 hkd
      have hdj : dpSh kd ≤ e := by
        obtain ⟨e2, h1, h2⟩ := dpSh_kid HM.out.2.1 hkd
        have := HDE.out
        omega
      have hway : wayAr r j ar = (rj, ar) := by
        unfold wayAr
        rw [HI.out.2.2]
        have hwl := HM.out.2.2.1
        dsimp only
        rw [if_pos ⟨by omega, by omega⟩, Int.toNat_natCast, List.getD_eq_getElem?_getD, hrj]
        rfl
      obtain ⟨hcs, H0⟩ := HQ.out
      have HH := Lib.hid H0
      have HJ := Lib.hid (And.intro hkd (And.intro hinj (And.intro hdj (And.intro hway hcs))))
      have HF : Hid (∀ z, (∃ l, Hid (Heap w0 z (l ++ ([blkP b8 33 #[.bool (!inn), .bool tg, .slice ap lp cp, .slice ak lk ck, .slice ac j cc], blkP b7 112 #[.bool inn, .bool tg, .slice ap lp cp, .slice ak lk ck, .slice an m cn], blkP b6 33 #[.bool false, .bool false, .slice none 0 0, .slice none 0 0, .slice none 0 0], rowP 77 2 (.slice ap lp cp) lp (pairC ps), rowP 2 1 (.slice ak lk ck) lk (intC ks), rowP 65 1 (.slice an m cn) m (intC wys)] ++ L)))) → World.cell? z ⟨b8, 4, none⟩ = some (.slice ac j cc)) := Lib.hid (fun z ⟨l, hz⟩ => ((Heap.swapF hz.out).blk 0 (b := b8) (t := 33) (c := #[.bool (!inn), .bool tg, .slice ap lp cp, .slice ak lk ck, .slice ac j cc]) rfl).cell 4)
      have HL := Lib.hid (show j + 1 ≤ maxLen ∧ (j + 1) * 80 ≤ 140737488355328 by unfold maxLen; omega)
      have hwr : IntKind.i64.wrap ((d : Int) - 1) = (e : Int) := by have h9 := HDE.out; rw [IntKind.wrap_i64]; omega
      have HWR := Lib.hid hwr
      clear HQ H0 hkd hrj hinj hdj hway hcs hwr
      go_upto_region 7 with fail
      have HZ := Lib.hid HH.out.drew
      clear HH
      refine wp_region_noPanic ?_
      refine AnyK.start (ks := [11, 12, 13]) (S := fun w' => ∃ l, Hid (Heap w0 w' (l ++ ([blkP b8 33 #[.bool (!inn), .bool tg, .slice ap lp cp, .slice ak lk ck, .slice ac j cc], blkP b7 112 #[.bool inn, .bool tg, .slice ap lp cp, .slice ak lk ck, .slice an m cn], blkP b6 33 #[.bool false, .bool false, .slice none 0 0, .slice none 0 0, .slice none 0 0], rowP 77 2 (.slice ap lp cp) lp (pairC ps), rowP 2 1 (.slice ak lk ck) lk (intC ks), rowP 65 1 (.slice an m cn) m (intC wys)] ++ L)))) (by kernel_rfl) (by exact ⟨_, HZ⟩) (fun _ => ?_)
      refine AnyK.takeB (i := 0) (v := ?_) rfl (by kernel_rfl) (by kernel_rfl) (by kernel_rfl) (by kernel_rfl) (fun _ _ _ h => h) (Or.inl ⟨by kernel_rfl, ?_⟩) (by exact ⟨_, HZ⟩) ?_
      rotate_left
      focus
        intro w9 hSw
        have hSw := HF.out w9 hSw
        go_simp
        try with_reducible rfl
      try simp only [Act.put, List.getElem_toArray, List.getElem_cons_zero, List.getElem_cons_succ, List.setIfInBounds_toArray, List.set_cons_zero, List.set_cons_succ]
      refine AnyK.takeB (i := 1) (v := ?_) rfl (by kernel_rfl) (by kernel_rfl) (by kernel_rfl) (by kernel_rfl) (fun _ _ _ h => h) (Or.inl ⟨by kernel_rfl, ?_⟩) (by exact ⟨_, HZ⟩) ?_
      rotate_left
      focus
        intro w9 hSw
        have hSw := HF.out w9 hSw
        go_simp
        try with_reducible rfl
      try simp only [Act.put, List.getElem_toArray, List.getElem_cons_zero, List.getElem_cons_succ, List.setIfInBounds_toArray, List.set_cons_zero, List.set_cons_succ]
      refine AnyK.takeB (i := 2) (v := ?_) rfl (by kernel_rfl) (by kernel_rfl) (by kernel_rfl) (by kernel_rfl) (fun _ _ _ h => h) (Or.inl ⟨by kernel_rfl, ?_⟩) (by exact ⟨_, HZ⟩) ?_
      rotate_left
      focus
        intro w9 hSw
        have hSw := HF.out w9 hSw
        go_simp
        try with_reducible rfl
      try simp only [Act.put, List.getElem_toArray, List.getElem_cons_zero, List.getElem_cons_succ, List.setIfInBounds_toArray, List.set_cons_zero, List.set_cons_succ]
      refine AnyK.takeB (i := 3) (v := ?_) rfl (by kernel_rfl) (by kernel_rfl) (by kernel_rfl) (by kernel_rfl) (fun _ _ _ h => h) (Or.inl ⟨by kernel_rfl, ?_⟩) (by exact ⟨_, HZ⟩) ?_
      rotate_left
      focus
        intro w9 hSw
        have hSw := HF.out w9 hSw
        go_simp
        try with_reducible rfl
      try simp only [Act.put, List.getElem_toArray, List.getElem_cons_zero, List.getElem_cons_succ, List.setIfInBounds_toArray, List.set_cons_zero, List.set_cons_succ]
      refine AnyK.takeB (i := 4) (v := ?_) rfl (by kernel_rfl) (by kernel_rfl) (by kernel_rfl) (by kernel_rfl) (fun _ _ _ h => h) (Or.inl ⟨by kernel_rfl, ?_⟩) (by exact ⟨_, HZ⟩) ?_
      rotate_left
      focus
        intro w9 hSw
        have hSw := HF.out w9 hSw
        go_simp
        try with_reducible rfl
      try simp only [Act.put, List.getElem_toArray, List.getElem_cons_zero, List.getElem_cons_succ, List.setIfInBounds_toArray, List.set_cons_zero, List.set_cons_succ]
      refine AnyK.takeB (i := 5) (v := ?_) rfl (by kernel_rfl) (by kernel_rfl) (by kernel_rfl) (by kernel_rfl) (fun _ _ _ h => h) (Or.inl ⟨by kernel_rfl, ?_⟩) (by exact ⟨_, HZ⟩) ?_
      rotate_left
      focus
        intro w9 hSw
        have hSw := HF.out w9 hSw
        go_simp
        try with_reducible rfl
      try simp only [Act.put, List.getElem_toArray, List.getElem_cons_zero, List.getElem_cons_succ, List.setIfInBounds_toArray, List.set_cons_zero, List.set_cons_succ]
      refine AnyK.takeB (i := 7) (v := ?_) rfl (by kernel_rfl) (by kernel_rfl) (by kernel_rfl) (by kernel_rfl) (fun _ _ _ h => h) (Or.inl ⟨by kernel_rfl, ?_⟩) (by exact ⟨_, HZ⟩) ?_
      rotate_left
      focus
        intro w9 hSw
        have hSw := HF.out w9 hSw
        go_simp
        try with_reducible rfl
      try simp only [Act.put, List.getElem_toArray, List.getElem_cons_zero, List.getElem_cons_succ, List.setIfInBounds_toArray, List.set_cons_zero, List.set_cons_succ]
      refine AnyK.takeB (i := 8) (v := ?_) rfl (by kernel_rfl) (by kernel_rfl) (by kernel_rfl) (by kernel_rfl) (fun _ _ _ h => h) (Or.inl ⟨by kernel_rfl, ?_⟩) (by exact ⟨_, HZ⟩) ?_
      rotate_left
      focus
        intro w9 hSw
        have hSw := HF.out w9 hSw
        go_simp
        try with_reducible rfl
      try simp only [Act.put, List.getElem_toArray, List.getElem_cons_zero, List.getElem_cons_succ, List.setIfInBounds_toArray, List.set_cons_zero, List.set_cons_succ]
      rw [HWR.out]
      refine AnyK.one (i := 6) (by kernel_rfl) rfl (fun K9 hK9 => ?_)
      go_simp
      refine (Way_h HZ.out (i + 8) HI.out.1 (HI.out.2.1.1.ok HI.out.2.1.2) r (j : Int)).mono ?_
      rintro e6 w6 ⟨rfl, H9⟩
      rw [HJ.out.2.2.2.1]
      rw [HJ.out.2.2.2.1, areP_set (i := i + 8) HI.out.1] at H9
      dsimp only
      clear HZ
      have HH1 := Lib.hid H9
      clear H9
      refine hK9.out _ _ (fun _ => ⟨_, HH1⟩) ?_
      clear hK9 K9
      try simp only [Act.put, List.getElem_toArray, List.getElem_cons_zero, List.getElem_cons_succ, List.setIfInBounds_toArray, List.set_cons_zero, List.set_cons_succ]
      refine AnyK.one (i := 9) (by kernel_rfl) rfl (fun K9 hK9 => ?_)
      go_simp
      refine (HIH.out e HDE.out HH1.out (i + 8) HI.out.1 N HI.out.2.1 kd rj HJ.out.2.1 HJ.out.2.2.1).mono ?_
      rintro e6 w7 ⟨v9, rfl, H9⟩
      obtain ⟨kp1, kp2, kp3, kp4, kp5, kp6, rfl⟩ := H9.shForm 0 rfl
      dsimp only [shV]
      clear HH1
      have HH2 : Hid (Heap w0 w7 ([shP kd ⟨.slice kp1 kd.ps.length kp2, .slice kp3 kd.ks.length kp4, .slice kp5 kd.kids.length kp6⟩, rowP 33 5 (.slice ac j cc) j (((kids.take j).zip cs).flatMap shC), shsP (kids.take j) cs] ++ ([blkP b8 33 #[.bool (!inn), .bool tg, .slice ap lp cp, .slice ak lk ck, .slice ac j cc], blkP b7 112 #[.bool inn, .bool tg, .slice ap lp cp, .slice ak lk ck, .slice an m cn], blkP b6 33 #[.bool false, .bool false, .slice none 0 0, .slice none 0 0, .slice none 0 0], rowP 77 2 (.slice ap lp cp) lp (pairC ps), rowP 2 1 (.slice ak lk ck) lk (intC ks), rowP 65 1 (.slice an m cn) m (intC wys)] ++ L))) := Lib.hid H9
      clear H9
      refine hK9.out _ _ (fun _ => ⟨_, HH2⟩) ?_
      clear hK9 K9
      try simp only [Act.put, List.getElem_toArray, List.getElem_cons_zero, List.getElem_cons_succ, List.setIfInBounds_toArray, List.set_cons_zero, List.set_cons_succ]
      refine AnyK.one (i := 10) (by kernel_rfl) rfl (fun K9 hK9 => ?_)
      go_simp
      have H9 := HH2.out.allocF 33 #[.bool kd.lf, .bool kd.tg, .slice kp1 kd.ps.length kp2, .slice kp3 kd.ks.length kp4, .slice kp5 kd.kids.length kp6]
      generalize w7.heap.size = bk at H9 hK9 ⊢
      generalize w7.alloc (.cells #[.bool kd.lf, .bool kd.tg, .slice kp1 kd.ps.length kp2, .slice kp3 kd.ks.length kp4, .slice kp5 kd.kids.length kp6] 33) = x10 at H9 hK9 ⊢
      have H9 : Heap w0 x10 ([blkP bk 33 #[.bool kd.lf, .bool kd.tg, .slice kp1 kd.ps.length kp2, .slice kp3 kd.ks.length kp4, .slice kp5 kd.kids.length kp6], shP kd ⟨.slice kp1 kd.ps.length kp2, .slice kp3 kd.ks.length kp4, .slice kp5 kd.kids.length kp6⟩, rowP 33 5 (.slice ac j cc) j (((kids.take j).zip cs).flatMap shC), shsP (kids.take j) cs] ++ ([blkP b8 33 #[.bool (!inn), .bool tg, .slice ap lp cp, .slice ak lk ck, .slice ac j cc], blkP b7 112 #[.bool inn, .bool tg, .slice ap lp cp, .slice ak lk ck, .slice an m cn], blkP b6 33 #[.bool false, .bool false, .slice none 0 0, .slice none 0 0, .slice none 0 0], rowP 77 2 (.slice ap lp cp) lp (pairC ps), rowP 2 1 (.slice ak lk ck) lk (intC ks), rowP 65 1 (.slice an m cn) m (intC wys)] ++ L)) := H9
      have HH3 := Lib.hid H9
      clear H9 HH2
      refine hK9.out _ _ (fun _ => ⟨_, HH3⟩) ?_
      clear hK9 K9
      try simp only [Act.put, List.getElem_toArray, List.getElem_cons_zero, List.getElem_cons_succ, List.setIfInBounds_toArray, List.set_cons_zero, List.set_cons_succ]
      refine AnyK.one (i := 11) (by kernel_rfl) rfl (fun K9 hK9 => ?_)
      refine step_append_typed _ (by rfl) (.tmp 34) (.tmp 43) 31 (by rfl) 33 i0 (.agg #[.bool false, .bool false, .slice none 0 0, .slice none 0 0, .slice none 0 0]) 5 80 Try.underlying31 I0.out.1 I0.out.2.1 I0.out.2.2.1 I0.out.2.2.2 rfl (by decide) (.slice ac j cc) j (((kids.take j).zip cs).flatMap shC) (by simp [Act.eval]) (HH3.out.row 2 rfl) (.slice (some ⟨bk, 0, none⟩) 1 1) 1 [.bool kd.lf, .bool kd.tg, .slice kp1 kd.ps.length kp2, .slice kp3 kd.ks.length kp4, .slice kp5 kd.kids.length kp6] (by simp [Act.eval]) (RdV.block (cs := #[.bool kd.lf, .bool kd.tg, .slice kp1 kd.ps.length kp2, .slice kp3 kd.ks.length kp4, .slice kp5 kd.kids.length kp6]) (t := 33) (HH3.out.blk 0 rfl) rfl (by decide)) (by simp [Value.oneCell']) HL.out.1 HL.out.2 ?_
      intro a8 c8 w8 q8 grow8 hat8
      have H9 := HH3.out.growRow 2 rfl (Fr.refl _ _) q8 grow8 (fun g hg => (hat8 g hg).resolve_left (fun h => absurd h.1 (by decide)))
      clear q8 grow8 hat8
      have H9 : Heap w0 w8 ([blkP bk 33 #[.bool kd.lf, .bool kd.tg, .slice kp1 kd.ps.length kp2, .slice kp3 kd.ks.length kp4, .slice kp5 kd.kids.length kp6], shP kd ⟨.slice kp1 kd.ps.length kp2, .slice kp3 kd.ks.length kp4, .slice kp5 kd.kids.length kp6⟩, rowP 33 5 (.slice a8 (j + 1) c8) (j + 1) (((kids.take j).zip cs).flatMap shC ++ [.bool kd.lf, .bool kd.tg, .slice kp1 kd.ps.length kp2, .slice kp3 kd.ks.length kp4, .slice kp5 kd.kids.length kp6]), shsP (kids.take j) cs] ++ ([blkP b8 33 #[.bool (!inn), .bool tg, .slice ap lp cp, .slice ak lk ck, .slice ac j cc], blkP b7 112 #[.bool inn, .bool tg, .slice ap lp cp, .slice ak lk ck, .slice an m cn], blkP b6 33 #[.bool false, .bool false, .slice none 0 0, .slice none 0 0, .slice none 0 0], rowP 77 2 (.slice ap lp cp) lp (pairC ps), rowP 2 1 (.slice ak lk ck) lk (intC ks), rowP 65 1 (.slice an m cn) m (intC wys)] ++ L)) := H9
      have HH4 := Lib.hid H9
      clear H9 HH3
      refine hK9.out _ _ (fun h => absurd (by decide) h) ?_
      clear hK9 K9
      try simp only [Act.put, List.getElem_toArray, List.getElem_cons_zero, List.getElem_cons_succ, List.setIfInBounds_toArray, List.set_cons_zero, List.set_cons_succ]
      refine AnyK.phase (S' := fun _ => True) (ks' := []) (by kernel_rfl) ?_
      refine AnyK.take (i := 12) (v := ?_) rfl (by kernel_rfl) (by kernel_rfl) (by kernel_rfl) (by kernel_rfl) (fun _ _ _ h => h) (Or.inl ⟨by rfl, ?_⟩) (by exact trivial) ?_
      rotate_left
      focus
        intro w9 hSw
        try dsimp only at hSw
        go_simp
        try with_reducible rfl
      try simp only [Act.put, List.getElem_toArray, List.getElem_cons_zero, List.getElem_cons_succ, List.setIfInBounds_toArray, List.set_cons_zero, List.set_cons_succ]
      have BE := HH4.out.blk 4 (b := b8) (t := 33) (c := #[.bool (!inn), .bool tg, .slice ap lp cp, .slice ak lk ck, .slice ac j cc]) rfl
      have e4 := BE.cell 4
      have f4 := BE.froz 4
      have H9 := HH4.out.setCell 4 rfl 4 (.slice a8 (j + 1) c8)
      clear BE HH4
      have H9 := Lib.hid (Heap.swap2 (Heap.shsPush (Heap.rot3 (Heap.tailP H9)) (by rw [List.length_take, HM.out.1, HJ.out.2.2.2.2]; omega)))
      have HX : Hid (Heap w0 _ ([rowP 33 5 (.slice a8 (j + 1) c8) (j + 1) (((kids.take (j + 1)).zip (cs ++ [⟨.slice kp1 kd.ps.length kp2, .slice kp3 kd.ks.length kp4, .slice kp5 kd.kids.length kp6⟩])).flatMap shC), shsP (kids.take (j + 1)) (cs ++ [⟨.slice kp1 kd.ps.length kp2, .slice kp3 kd.ks.length kp4, .slice kp5 kd.kids.length kp6⟩])] ++ ([blkP b8 33 #[.bool (!inn), .bool tg, .slice ap lp cp, .slice ak lk ck, .slice a8 (j + 1) c8], blkP b7 112 #[.bool inn, .bool tg, .slice ap lp cp, .slice ak lk ck, .slice an m cn], blkP b6 33 #[.bool false, .bool false, .slice none 0 0, .slice none 0 0, .slice none 0 0], rowP 77 2 (.slice ap lp cp) lp (pairC ps), rowP 2 1 (.slice ak lk ck) lk (intC ks), rowP 65 1 (.slice an m cn) m (intC wys)] ++ L))) := Lib.hid (by
        rw [zip_next HJ.out.1 HJ.out.2.2.2.2, show kids.take (j + 1) = kids.take j ++ [kd] by rw [List.take_add_one, HJ.out.1]; rfl]
        exact H9.out)
      clear H9
      refine AnyK.one (i := 13) (by kernel_rfl) rfl (fun K9 hK9 => ?_)
      go_simp
      refine hK9.out _ _ (fun _ => trivial) ?_
      clear hK9 K9
      try simp only [Act.put, List.getElem_toArray, List.getElem_cons_zero, List.getElem_cons_succ, List.setIfInBounds_toArray, List.set_cons_zero, List.set_cons_succ]
      refine AnyK.done (by kernel_rfl) ?_ _
      refine NoPanic.normal ?_
      clear e4 f4
      go_wp2_with fail
      exact ⟨⟨j + 1, a8, c8, cs ++ [⟨.slice kp1 kd.ps.length kp2, .slice kp3 kd.ks.length kp4, .slice kp5 kd.kids.length kp6⟩], by go_num, by omega, Lib.hid ⟨by rw [List.length_append, HJ.out.2.2.2.2]; rfl, HX.out⟩⟩, by simp [intOf]; omega⟩
    · obtain rfl : j = m := by omega
      have hkt : kids.take j = kids := List.take_of_length_le (by rw [HM.out.1]; exact Nat.le_refl _)
      obtain ⟨hcs, H0⟩ := HQ.out
      rw [hkt] at H0
      have HH := Lib.hid H0
      have HCS := Lib.hid (And.intro hcs hkt)
      clear HQ H0 hcs hkt
      have B8 := HH.out.blk 2 (b := b8) (t := 33) (c := #[.bool (!inn), .bool tg, .slice ap lp cp, .slice ak lk ck, .slice ac j cc]) rfl
      have o0 := B8.cell 0
      have o1 := B8.cell 1
      have o2 := B8.cell 2
      have o3 := B8.cell 3
      have o4 := B8.cell 4
      have B6 := HH.out.blk 4 (b := b6) (t := 33) (c := #[.bool false, .bool false, .slice none 0 0, .slice none 0 0, .slice none 0 0]) rfl
      have p0 := B6.cell 0
      have p1 := B6.cell 1
      have p2 := B6.cell 2
      have p3 := B6.cell 3
      have p4 := B6.cell 4
      have f0 := B6.froz 0
      have f1 := B6.froz 1
      have f2 := B6.froz 2
      have f3 := B6.froz 3
      have f4 := B6.froz 4
      have HX := ((((HH.out.setCell 4 rfl 0 (.bool (!inn))).setCell 4 rfl 1 (.bool tg)).setCell 4 rfl 2 (.slice ap lp cp)).setCell 4 rfl 3 (.slice ak lk ck)).setCell 4 rfl 4 (.slice ac j cc)
      have BX := HX.blk 4 (b := b6) (t := 33) (c := #[.bool (!inn), .bool tg, .slice ap lp cp, .slice ak lk ck, .slice ac j cc]) rfl
      have HX := Lib.hid HX
      have HBX := Lib.hid BX
      have HHL := Lib.hid HH
      clear B8 B6 BX HH
      go_upto_region 9 with fail
      go_wp2_with fail

      have x0 := HBX.out.cell 0
      have x1 := HBX.out.cell 1
      have x2 := HBX.out.cell 2
      have x3 := HBX.out.cell 3
      have x4 := HBX.out.cell 4
      refine bodyPost_ret (v := .agg #[.bool (!inn), .bool tg, .slice ap lp cp, .slice ak lk ck, .slice ac j cc]) (by simp [results, Try.results61, go_sem, x0, x1, x2, x3, x4]) rfl ?_
      refine ⟨⟨.slice ap lp cp, .slice ak lk ck, .slice ac j cc⟩, rfl, ?_⟩
      have HY := HX.out.pick8
      rw [← HLN.out.1, ← HLN.out.2]
      rw [← HLN.out.1, ← HLN.out.2] at HY
      obtain rfl : kids.length = j := HM.out.1
      exact Heap.shMake (by rw [HCS.out.1]) HY
theorem read_h : ∀ (d : Nat), d ≤ 1000 → ∀ {w0 w : World} {L : List Piece} {a : Nat} {ar : Ar} (_ : Heap w0 w L) (i : Nat) (_ : L[i]? = some (areP a ar)) (N : Nat) (_ : OkN ar N ∧ N ≤ 60000) (s : Sh) (r : Int) (_ : InAr ar s r) (_ : dpSh s ≤ d),
    Calls Try.prog 61 #[.pointer (some ⟨a, 0, none⟩), .int .i64 r, .int .i64 (d : Int)] w (readPost w0 L s)
  | 0, hd => fun h i hi N hok s r hin hdp => read_step 0 hd (fun e he => by omega) h i hi N hok s r hin hdp
  | d + 1, hd => fun h i hi N hok s r hin hdp => read_step (d + 1) hd (fun e he => by
      obtain rfl : d = e := by omega
      exact read_h d (by omega)) h i hi N hok s r hin hdp
end Go.Proofs.Ytkbnoceekileiaa
