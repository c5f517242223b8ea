/- WorldMakes' two operations: nodes are made, then dropped. No condition. -/
import Derived.Test.YthkohomogknddaaTsl
import Derived.Test.YthkohomogknddaaWWo3
import Derived.Test.YthkohomogknddaaLev
namespace Go.Proofs.Ythkohomogknddaa
open Go Go.RowKit
set_option linter.unusedVariables false
set_option linter.unusedSimpArgs false
set_option maxRecDepth 100000
section
variable {w0 w : World} {pl : Pl Wd} {X : List Piece} {T : Th} {c : Wc} {N : Nat} {me : Int} {x : Tst Wd}
set_option maxHeartbeats 1000000 in
theorem Drop_far (wp : WdPl pl c) (h : Heap w0 w (pl.F x.sh (T.of x) ++ X)) (hin : T.inn = true) (hf : FitW N x) (hN' : N ≤ 50000) (v : Value) (rs : List Int) (hm : rs.length ≤ 1000000)
    (rd : ∀ z s T Y, Heap w0 z (pl.F s T ++ (X ++ Y)) → RdV z v rs.length 1 (intC rs)) :
    Calls Try.prog 40 #[tkV pl.tb c.wb me, v] w (TaskP pl w0 X T N unitR ((dropP rs).run x)) := by
  obtain ⟨pa, pc, rfl⟩ := (rd w x.sh (T.of x) [] (by rw [List.append_nil]; exact h)).len
  have h1 := h.alloc 41 #[.pointer (some ⟨pl.tb, 0, none⟩), .pointer (some ⟨c.wb, 0, none⟩), .int .i64 me]
  rw [List.append_assoc] at h1
  generalize hP : (dropP rs).run x = res at *
  have HP := Lib.hid hP
  have HF := Lib.hid hf
  have HRD := Lib.hid rd
  have HH := Lib.hid h1
  have hmf : ∀ (fn : Fn) (first cap : Array Value) (z : World), (Instr.makeFunc fn first cap).run Try.prog z = .ok (.func fn first cap) z := fun _ _ _ _ => rfl
  clear h h1 rd hf hP
  unfold tkV
  go_enter Try.func40, Try.ntmps40
  go_wp2_with fail
  generalize hH : w.heap.size = b0 at *
  go_loopw [8] (fun i wr => ∃ (k : Nat) (x1 : Tst Wd), i = .int .i64 (k : Nat) ∧ k ≤ rs.length ∧ Hid ((dropP (rs.drop k)).run x1 = res) ∧ Hid (FitW N x1) ∧ Hid (Heap w0 wr (pl.F x1.sh (T.of x1) ++ (X ++ [tkP pl.tb c.wb b0 me])))) (fun i _ => rs.length - (intOf i).toNat)
  case atStart => exact ⟨0, x, rfl, Nat.zero_le _, by simpa using HP, HF, HH⟩
  case round =>
    clear HH HP HF
    obtain ⟨k, x1, rfl, hk, HP, HF, HH⟩ := hrel
    by_cases hlt : k < rs.length
    · obtain ⟨a1, ea, hc1, hat1⟩ := (HRD.out _ _ _ _ HH.out).at (by omega)
      subst ea
      obtain ⟨r, hr⟩ : ∃ r, rs[k]? = some r := ⟨_, List.getElem?_eq_getElem hlt⟩
      have y1 := hat1 k (.int .i64 r) (by simp [intC, hr])
      have hd : rs.drop k = r :: rs.drop (k + 1) := by
        rw [List.drop_eq_getElem_cons hlt]
        congr 1
        exact (List.getElem?_eq_some_iff.1 hr).2
      have HB := HH.out.alloc 29 #[.int .i64 r]
      rw [List.append_assoc] at HB
      generalize hkb : wr.heap.size = kb at *
      have kn : (wr.alloc (.cells #[.int .i64 r] 29)).cell? ⟨kb, 0, none⟩ = some (.int .i64 r) := (x_blk (b := kb) (t := 29) (cs := #[.int .i64 r]) HB (X.length + 1) (by simp)).cell 0
      obtain ⟨k0, k1, k2⟩ := tk_cells (tk := b0) (me := me) (tb := pl.tb) (wb := c.wb) HB X.length (by simp [tkP])
      have hP := HP.out
      rw [hd] at hP
      clear hat1 hr hd
      by_cases h0 : r = 0
      · have hb : (r != 0) = false := by simpa using h0
        have hP3 : (dropP (rs.drop (k + 1))).run x1 = res := by rw [← hP, dropP, if_pos h0]
        have HP3 := Lib.hid hP3
        have HX := Lib.hid HB.dropX
        clear hP3 hP HB HP HH h0
        go_wp2_with fail
        exact ⟨⟨k + 1, x1, by go_num, by omega, HP3, HF, HX⟩, by simp [intOf]; omega⟩
      · have hb : (r != 0) = true := by simpa using h0
        have hP3 : (Wk.ask (aFree r) fun _ => dropP (rs.drop (k + 1))).run x1 = res := by rw [← hP, dropP, if_neg h0]
        have C := Ask_wd HB hin HF.out 84 #[] #[.pointer (some ⟨b0, 0, none⟩), .pointer (some ⟨kb, 0, none⟩)] drop_enters (freeAr r x1.sh.ar).1 (aFree r x1.sh).2 (aFree r) rfl (fun Y T z ok _ hz => free_touch (me := me) wp hz X.length (by simp [tkP]) (X.length + 1) r (by simp) ok (by omega))
        rcases ha : askT (aFree r) x1 with ⟨q, x2⟩
        rw [ha] at C
        have CC := Lib.hid C
        have H0 := Lib.hid h0
        clear C HB hP HP HH h0
        cases q with
        | none =>
          have HP : Hid ((.wait, x2) = res) := Lib.hid ((Wk.run_none (k := fun _ => dropP (rs.drop (k + 1))) ha).symm.trans hP3)
          clear hP3
          go_wp2_with fail
          refine CC.out.mono ?_
          rintro e w' ⟨rfl, H⟩
          change bodyPost Try.prog Try.f40 _ (Exit.panic [waitE]) _ _
          rw [← HP.out]
          exact ⟨rfl, rfl, H.dropX.dropX⟩
        | some q =>
          have HP : Hid ((dropP (rs.drop (k + 1))).run x2 = res) := Lib.hid ((Wk.run_some (k := fun _ => dropP (rs.drop (k + 1))) ha).symm.trans hP3)
          have HF2 := Lib.hid (HF.out.ask (good_free r) ha)
          clear hP3
          go_wp2_with fail
          refine CC.out.mono ?_
          rintro e w' ⟨rfl, H⟩
          have HX := Lib.hid H.dropX
          clear H CC k0 k1 k2 kn y1
          go_wp2_with fail
          exact ⟨⟨k + 1, x2, by go_num, by omega, HP, HF2, HX⟩, by simp [intOf]; omega⟩
    · have hd : rs.drop k = [] := List.drop_eq_nil_of_le (by omega)
      have hP := HP.out
      rw [hd] at hP
      have HP3 : Hid ((.done (), x1) = res) := Lib.hid hP
      clear hP HP hd
      go_wp2_with fail
      go_end0
      rw [← HP3.out]
      exact ⟨_, [], rfl, ⟨rfl, rfl⟩, HF.out, by rw [List.append_nil]; exact HH.out.dropX⟩
end
def dropsP (rs : List Int) : Wk (List Int) := (dropP rs).bind fun _ => .ret []
def mkNd (i : Nat) : Nd := ⟨false, decide (i % 2 = 1), [], [], []⟩
def makesP : Nat → Nat → List Int → Wk (List Int)
  | 0, _, acc => .ret acc
  | F + 1, i, acc => .ask (aAlloc (mkNd i)) fun r => makesP F (i + 1) (acc ++ [r])
section
variable {w0 w : World} {pl : Pl Wd} {c : Wc} {me : Int} {N : Nat}
theorem wmd_enters (x : Array Value) (z : World) : (callFunc 39 x).run Try.prog z = .ok (.enter 39 x) z := rfl
theorem wmd_does (wp : WdPl pl c) (hN : N ≤ 50000) {lb : Nat} {v : Value} {rs : List Int} (hm : rs.length ≤ 1000000) (li ri : Nat) (hl : ∀ s T, (pl.F s T)[li]? = some (blkP lb 50 #[v])) (hr : ∀ s T, (pl.F s T)[ri]? = some (rowP 29 1 v rs.length (intC rs))) :
    Does pl c me 39 #[] #[.pointer (some ⟨lb, 0, none⟩)] (dropsP rs) N (fun _ => True) w0 := by
  intro w X T x h hin hf hH hns
  have h1 := h.alloc 41 #[.pointer (some ⟨pl.tb, 0, none⟩), .pointer (some ⟨c.wb, 0, none⟩), .int .i64 me]
  rw [List.append_assoc] at h1
  generalize hHs : w.heap.size = b0 at *
  obtain ⟨k0, k1, k2⟩ := tk_cells (tk := b0) (me := me) (tb := pl.tb) (wb := c.wb) h1 X.length (by simp [tkP])
  have kl : (w.alloc (.cells #[.pointer (some ⟨pl.tb, 0, none⟩), .pointer (some ⟨c.wb, 0, none⟩), .int .i64 me] 41)).cell? ⟨lb, 0, none⟩ = some v := (h1.blk li (get_left (hl _ _))).cell 0
  have C := Drop_far (me := me) wp h1 hin hf hN v rs hm (fun z s T Y hz => (hz.row ri (get_left (hr s T))).rdv)
  unfold tkV at C
  rcases hq : (dropP rs).run x with ⟨r, x1⟩
  rw [hq] at C
  clear h h1
  cases r with
  | stuck => exact absurd (by rw [hq]) (Wk.bind_ns (q := fun _ => (.ret [] : Wk (List Int))) hns)
  | wait =>
    have HR : Hid ((dropsP rs).run x = (.wait, x1)) := Lib.hid (Wk.bind_wait hq)
    have CC := Lib.hid C
    clear C hns hq hf hH
    unfold tkV
    go_enter Try.func39, Try.ntmps39
    go_wp2_with fail
    refine CC.out.mono ?_
    rintro e w' ⟨rfl, H⟩
    change bodyPost Try.prog Try.f39 _ (Exit.panic [waitE]) _ _
    rw [HR.out]
    exact ⟨rfl, rfl, H.dropX⟩
  | done u =>
    have hR : (dropsP rs).run x = (.ret [] : Wk (List Int)).run x1 := Wk.bind_done hq
    have HR := Lib.hid hR
    have CC := Lib.hid C
    clear C hns hq hf hH hR
    unfold tkV
    go_enter Try.func39, Try.ntmps39
    go_wp2_with fail
    refine CC.out.mono ?_
    rintro e w' ⟨val, Y, rfl, ⟨rfl, rfl⟩, hf1, H⟩
    rw [List.append_nil] at H
    clear CC k0 k1 k2
    have HH := Lib.hid H.dropX
    have HF := Lib.hid hf1
    clear H hf1
    go_wp2_with fail
    go_ret
    rw [HR.out]
    exact ⟨_, [rowP 2 1 (.slice none 0 0) 0 []], rfl, ⟨none, 0, rfl, rfl⟩, HF.out, HH.out.rowNil _ _⟩
theorem wmk_enters (x : Array Value) (z : World) : (callFunc 36 x).run Try.prog z = .ok (.enter 36 x) z := rfl
theorem intC_snoc1 (l : List Int) (q : Int) : intC l ++ [.int .i64 q] = intC (l ++ [q]) := by simp [intC]
theorem set_last2 {A X : List Piece} {a b b' : Piece} : (A ++ (X ++ [a, b])).set (A.length + (X.length + 1)) b' = A ++ (X ++ [a, b']) := by
  rw [List.set_append_right _ _ (by omega), Nat.add_sub_cancel_left, List.set_append_right _ _ (by omega), Nat.add_sub_cancel_left]; rfl
set_option maxHeartbeats 4000000 in
theorem wmk_does (wp : WdPl pl c) (hN : N ≤ 50000) {nb n : Nat} (hn : n ≤ 1000) (ni : Nat) (hl : ∀ s T, (pl.F s T)[ni]? = some (blkP nb 3 #[.int .i64 (n : Nat)])) :
    Does pl c me 36 #[] #[.pointer (some ⟨nb, 0, none⟩)] (makesP n 0 []) N (fun _ => True) w0 := by
  intro w X T x h hin hf hH hns
  have h1 := (h.alloc 41 #[.pointer (some ⟨pl.tb, 0, none⟩), .pointer (some ⟨c.wb, 0, none⟩), .int .i64 me]).rowNil 2 1
  rw [List.append_assoc, List.append_assoc] at h1
  generalize hHs : w.heap.size = b0 at *
  generalize hP : (makesP n 0 []).run x = res at *
  have HP : Hid ((makesP (n - 0) 0 []).run x = res) := Lib.hid hP
  have HF := Lib.hid hf
  have HNS := Lib.hid hns
  generalize hz0 : w.alloc (.cells #[.pointer (some ⟨pl.tb, 0, none⟩), .pointer (some ⟨c.wb, 0, none⟩), .int .i64 me] 41) = z0 at *
  have kl : z0.cell? ⟨nb, 0, none⟩ = some (.int .i64 (n : Nat)) := (h1.blk ni (get_left (hl _ _))).cell 0
  have HH : Hid (Heap w0 z0 (pl.F x.sh (T.of x) ++ (X ++ [tkP pl.tb c.wb b0 me, rowP 2 1 (.slice none 0 0) 0 (intC [])]))) := Lib.hid h1
  obtain ⟨i0, hi0, hz0', hz1, hz2⟩ := info_parts info_i64
  have I0 := Lib.hid (And.intro hi0 (And.intro hz0' (And.intro hz1 hz2)))
  clear hi0 hz0' hz1 hz2 h h1 hf hns hP
  unfold tkV
  go_enter Try.func36, Try.ntmps36
  go_wp2_with fail
  clear kl
  go_loopw [4, 7] (fun s4 i wr => ∃ (k : Nat) (x1 : Tst Wd) (acc : List Int) (a : Option Addr) (cp : Nat), i = .int .i64 (k : Nat) ∧ s4 = .slice a k cp ∧ k ≤ n ∧ Hid (acc.length = k) ∧ Hid ((makesP (n - k) k acc).run x1 = res) ∧ Hid (FitW N x1) ∧ Hid (Heap w0 wr (pl.F x1.sh (T.of x1) ++ (X ++ [tkP pl.tb c.wb b0 me, rowP 2 1 (.slice a k cp) k (intC acc)])))) (fun _ i _ => n - (intOf i).toNat)
  case atStart => exact ⟨0, x, [], none, 0, rfl, rfl, Nat.zero_le _, Lib.hid rfl, HP, HF, HH⟩
  case round =>
    clear HH HP HF
    obtain ⟨k, x1, acc, a, cp, rfl, rfl, hk, HA, HP, HF, HH⟩ := hrel
    by_cases hlt : k < n
    · obtain ⟨k0, k1, k2⟩ := tk_cells (tk := b0) (me := me) (tb := pl.tb) (wb := c.wb) HH.out X.length (by simp [tkP])
      have hP := HP.out
      rw [show n - k = (n - (k + 1)) + 1 from by omega] at hP
      unfold makesP at hP
      have C := Make_task (me := me) wp HH.out hin HF.out hN (mkNd k) ⟨by simp [mkNd], by simp [mkNd], by simp [mkNd]⟩ nilS nilS nilS (fun _ _ _ => ⟨RdV_nil _ _, RdV_nil _ _, RdV_nil _ _⟩)
      unfold tkV nodeV mkNd at C
      rcases hr : askT (aAlloc (mkNd k)) x1 with ⟨q, x2⟩
      have hr' := hr
      unfold mkNd at hr'
      have hb : decide (k % 2 = 1) = ((k : Int) % 2 == 1) := by rw [Bool.eq_iff_iff]; simp; omega
      cases q with
      | none =>
        rw [Wk.run_none hr', hb] at C
        rw [Wk.run_none hr] at hP
        have HP3 := Lib.hid hP
        have CC := Lib.hid C
        clear C hr hr' hb hP HP
        go_wp2_with fail
        refine CC.out.mono ?_
        rintro e w' ⟨rfl, H⟩
        change bodyPost Try.prog Try.f36 _ (Exit.panic [waitE]) _ _
        rw [← HP3.out]
        exact ⟨rfl, rfl, H.dropX⟩
      | some q =>
        rw [Wk.run_some hr', hb] at C
        rw [Wk.run_some hr] at hP
        have HP3 := Lib.hid hP
        have HF2 := Lib.hid (HF.out.ask (good_alloc (mkNd k) ⟨by simp [mkNd], by simp [mkNd], by simp [mkNd]⟩) hr)
        have CC := Lib.hid C
        clear C hr hr' hb hP HP HH HF
        go_wp2_with fail
        refine CC.out.mono ?_
        rintro e w4 ⟨val, Y, rfl, ⟨rfl, rfl⟩, _, H3⟩
        rw [List.append_nil] at H3
        have HH := Lib.hid H3
        have QQ := Lib.hid (H3.row ((pl.F x2.sh (T.of x2)).length + (X.length + 1)) (t := 2) (sz := 1) (n := k) (v := .slice a k cp) (us := intC acc) (by simp))
        have hlm' : k + 1 ≤ maxLen := by unfold maxLen; omega
        have hlb2 : (k + 1) * 8 ≤ 140737488355328 := by omega
        have HL := Lib.hid (And.intro hlm' hlb2)
        clear CC H3 hlm' hlb2 k0 k1 k2
        go_wp2_with (at_builtin; refine wpList_append_typed _ rfl _ _ _ (by rfl) 2 i0 (.int .i64 0) 1 8 Try.underlying35 I0.out.1 I0.out.2.1 I0.out.2.2.1 I0.out.2.2.2 rfl (by decide) (.slice a k cp) k (intC acc) (by rfl) (QQ.out.fr (F := nob) (by repeat (first | exact Fr.refl _ _ | apply Fr.drew | apply Fr.alloc)) (fun _ _ _ x => x)) _ 1 [.int .i64 q] (by rfl) (RdV.block (cs := #[.int .i64 q]) (t := 2) (by repeat (first | exact Blk.new' rfl _ _ | apply Blk.drew | apply Blk.alloc)) rfl (by decide)) (by simp [Value.oneCell']) HL.out.1 HL.out.2 ?_)
        intro a' c' w5 q' grow hat'
        have G := HH.out.growRow ((pl.F x2.sh (T.of x2)).length + (X.length + 1)) (t := 2) (sz := 1) (n := k) (v := .slice a k cp) (us := intC acc) (by simp) (Fr.alloc (Fr.refl nob w4) (.cells #[.int .i64 q] 2)) q' grow (fun g hg => (hat' g hg).imp_left (fun h => h.imp_right (fun h => by simpa using h)))
        rw [set_last2, intC_snoc1] at G
        have HH5 := Lib.hid G
        have HA2 : Hid ((acc ++ [q]).length = k + 1) := by have := HA.out; exact Lib.hid (by simp [this])
        clear G q' grow hat' QQ HH HA HL
        go_wp2_with fail
        exact ⟨⟨k + 1, x2, acc ++ [q], a', c', by go_num, rfl, by omega, HA2, HP3, HF2, HH5⟩, by simp [intOf]; omega⟩
    · have hnk : n - k = 0 := by omega
      have hP := HP.out
      rw [hnk] at hP
      have HP3 : Hid ((.done acc, x1) = res) := Lib.hid hP
      have hkn : k = n := by omega
      subst hkn
      clear hP HP hnk
      go_wp2_with fail
      go_ret
      rw [← HP3.out]
      have HL := HA.out
      refine ⟨.slice a k cp, [rowP 2 1 (.slice a k cp) k (intC acc)], rfl, ⟨a, cp, by rw [HL], by rw [HL]⟩, HF.out, ?_⟩
      have G := HH.out
      have e : pl.F x1.sh (T.of x1) ++ (X ++ [tkP pl.tb c.wb b0 me, rowP 2 1 (.slice a k cp) k (intC acc)]) = (pl.F x1.sh (T.of x1) ++ X) ++ [tkP pl.tb c.wb b0 me] ++ [rowP 2 1 (.slice a k cp) k (intC acc)] := by simp
      rw [e] at G
      exact G.mid
end
end Go.Proofs.Ythkohomogknddaa
