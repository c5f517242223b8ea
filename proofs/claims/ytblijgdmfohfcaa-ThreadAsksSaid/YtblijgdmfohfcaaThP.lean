/- Touches that tell yes or no (ThreadAsks): the operation's work, as a task. No condition but the bounds of size. -/
import Derived.Test.YtblijgdmfohfcaaThO
namespace Go.Proofs.Ytblijgdmfohfcaa
open Go Go.RowKit
set_option linter.unusedVariables false
set_option linter.unusedSimpArgs false
def bitA (b : Bool) : Int := if b = true then 1 else 0
def asA (b : Bool) (s : Int) : Int × Int := (bitA b, s + 1)
def asP : List Bool → Nat → List Int → Prog Int (List Int)
  | [], _, out => .ret out
  | b :: r, i, out => .ask (asA b) fun a => asP r (i + 1) (if a = 1 then out ++ [(i : Int)] else out)
/-- What is asked, which is none, how many were asked, the operation. -/
def asPl (lb nb sb tb : Nat) (pv : Value) (no : Int) : Pl Int := { F := fun s T => [blkP lb 45 #[pv], blkP nb 5 #[.int .u8 no], blkP sb 3 #[.int .i64 s], thP tb T], ti := 3, tb := tb, get := fun _ _ => rfl, put := fun _ _ _ => rfl }
def asOk (s : Int) : Prop := 0 ≤ s ∧ s ≤ 1000
section
variable {w0 w : World} {X : List Piece} {s no : Int} {T : Th} {lb nb sb tb yb : Nat} {pv : Value}
theorem asA_calls (h : Heap w0 w ((asPl lb nb sb tb pv no).F s T ++ X)) (ok : asOk s) (i : Nat) (b : Bool) (hX : X[i]? = some (blkP yb 4 #[.bool b])) : Calls Try.prog 29 #[.pointer (some ⟨sb, 0, none⟩), .pointer (some ⟨yb, 0, none⟩)] w fun e w' => e = .returned (.bool b) ∧ Heap w0 w' ((asPl lb nb sb tb pv no).F (s + 1) T ++ X) := by
  obtain ⟨o0, o1⟩ := ok
  have B := h.blk 2 (b := sb) (t := 3) (c := #[.int .i64 s]) rfl
  have c0 : w.cell? ⟨sb, 0, none⟩ = some (.int .i64 s) := B.cell 0
  have z0 := B.froz 0
  have G : Heap w0 (w.setCell ⟨sb, 0, none⟩ (.int .i64 (s + 1))) ((asPl lb nb sb tb pv no).F (s + 1) T ++ X) := h.setCell 2 (b := sb) (t := 3) (c := #[.int .i64 s]) rfl 0 (.int .i64 (s + 1))
  have c1 : (w.setCell ⟨sb, 0, none⟩ (.int .i64 (s + 1))).cell? ⟨yb, 0, none⟩ = some (.bool b) := (G.blk (4 + i) (b := yb) (t := 4) (c := #[.bool b]) (by rw [List.getElem?_append_right (by simp [asPl])]; simpa [asPl] using hX)).cell 0
  have GG := Lib.hid G
  clear h B G
  go_enter Try.func29, Try.ntmps29
  go_upto_region 2 with fail
  generalize w.setCell ⟨sb, 0, none⟩ (.int .i64 (s + 1)) = W at *
  go_wp2_with fail
  go_ret
  exact ⟨rfl, GG.out⟩
theorem asA_enters (x : Array Value) (z : World) : (callFunc 29 x).run Try.prog z = .ok (.enter 29 x) z := rfl
theorem as_enters (x : Array Value) (z : World) : (callFunc 28 x).run Try.prog z = .ok (.enter 28 x) z := rfl
set_option maxHeartbeats 8000000 in
set_option maxRecDepth 100000 in
theorem asWork_calls {bs : List Bool} (h : Heap w0 w ((asPl lb nb sb tb pv no).F s T ++ X)) (hin : T.inn = true) (hf : Fit asOk (T.st s)) (R : RdV w0 pv bs.length 1 (bs.map Value.bool)) (hlen : bs.length ≤ 30) (hno : 0 ≤ no ∧ no ≤ 255) :
    Calls Try.prog 28 #[.pointer (some ⟨tb, 0, none⟩), .pointer (some ⟨lb, 0, none⟩), .pointer (some ⟨nb, 0, none⟩), .pointer (some ⟨sb, 0, none⟩)] w (WorkPost (asPl lb nb sb tb pv no) w0 X T ((asP bs 0 []).run (T.st s))) := by
  obtain ⟨pa, pc, rfl⟩ := R.len
  obtain ⟨n0, n1⟩ := hno
  obtain ⟨i0, hi0, hz0, hz1, hz2⟩ := info_parts info_i64t
  have I0 := Lib.hid (And.intro hi0 (And.intro hz0 (And.intro hz1 hz2)))
  have kl : w.cell? ⟨lb, 0, none⟩ = some (.slice pa bs.length pc) := (h.blk 0 (b := lb) (t := 45) (c := #[.slice pa bs.length pc]) rfl).cell 0
  have H1 := h.rowNil 2 1
  rw [List.append_assoc] at H1
  have HH : Hid (Heap w0 w ((asPl lb nb sb tb (.slice pa bs.length pc) no).F s T ++ (X ++ [rowP 2 1 (.slice none 0 0) ([] : List Int).length (intC [])]))) := Lib.hid H1
  have HF := Lib.hid hf
  have HR := Lib.hid R
  have hmf : ∀ (fn : Fn) (first cap : Array Value) (z : World), (Instr.makeFunc fn first cap).run Try.prog z = .ok (.func fn first cap) z := fun _ _ _ _ => rfl
  generalize hP : (asP bs 0 []).run (T.st s) = res at *
  have HP := Lib.hid hP
  clear h H1 hf R hi0 hz0 hz1 hz2 hP
  go_enter Try.func28, Try.ntmps28
  go_wp2_with fail
  go_loopw [6, 11] (fun o i wr => ∃ (k : Nat) (s1 : Int) (T1 : Th) (outs : List Int), i = .int .i64 (k : Nat) ∧ k ≤ bs.length ∧ outs.length ≤ k ∧ Hid (T1.inn = true ∧ ∃ y, T1 = T.of y) ∧ Hid (Fit asOk (T1.st s1)) ∧ Hid ((asP (bs.drop k) k outs).run (T1.st s1) = res) ∧ Hid (Heap w0 wr ((asPl lb nb sb tb (.slice pa bs.length pc) no).F s1 T1 ++ (X ++ [rowP 2 1 o outs.length (intC outs)])))) (fun _ i _ => bs.length - (intOf i).toNat)
  case atStart => exact ⟨0, s, T, [], rfl, Nat.zero_le _, Nat.le_refl _, Lib.hid ⟨hin, T.st s, rfl⟩, HF, HP, HH⟩
  case round =>
    clear HH HF HP kl
    obtain ⟨k, s1, T1, outs, rfl, hk, hol, HT, HF, HP, HH⟩ := hrel
    obtain ⟨oa, oc, rfl, _, _⟩ := (HH.out.row (4 + X.length) (t := 2) (sz := 1) (n := outs.length) (us := intC outs) (by rw [List.getElem?_append_right (by simp [asPl]), List.getElem?_append_right (by simp [asPl])]; simp [asPl]; rfl)).form
    obtain ⟨hT, y, hy⟩ := HT.out
    by_cases hlt : k < bs.length
    · obtain ⟨b1, eb, hc1, hat1⟩ := (HR.out.fr HH.out.fr (fun _ _ _ (x : nob _) => x)).at (by omega)
      subst eb
      obtain ⟨b, hb⟩ : ∃ b, bs[k]? = some b := ⟨_, List.getElem?_eq_getElem hlt⟩
      have x1 : wr.cell? (b1.add k) = some (.bool b) := hat1 _ _ (by simp [hb])
      have kn : wr.cell? ⟨nb, 0, none⟩ = some (.int .u8 no) := (HH.out.blk 1 rfl).cell 0
      have ln := (HH.out.blk 1 (b := nb) (t := 5) (c := #[.int .u8 no]) rfl).lt
      have hd : bs.drop k = b :: bs.drop (k + 1) := by
        rw [List.drop_eq_getElem_cons hlt]
        congr 1
        exact (List.getElem?_eq_some_iff.1 hb).2
      have HA := HH.out.alloc 4 #[.bool b]
      rw [List.append_assoc, List.append_assoc] at HA
      have HAA := Lib.hid HA
      have HY := Lib.hid hy
      have HD := Lib.hid hd
      clear HA HH hat1 hb hc1 hy hd
      go_upto_region 5 with fail
      generalize wr.heap.size = yb at *
      have kn2 : (wr.alloc (.cells #[.bool b] 4)).cell? ⟨nb, 0, none⟩ = some (.int .u8 no) := (HAA.out.blk 1 rfl).cell 0
      generalize wr.alloc (.cells #[.bool b] 4) = W at *
      clear kn x1 ln
      have tailC : ∀ z, Heap w0 z ((asPl lb nb sb tb (.slice (some b1) bs.length pc) no).F s1 T1 ++ (X ++ ([rowP 2 1 (.slice oa outs.length oc) outs.length (intC outs)] ++ [blkP yb 4 #[.bool b]]))) → Calls Try.prog 24 #[.pointer (some ⟨tb, 0, none⟩), .func (.func 29) #[] #[.pointer (some ⟨sb, 0, none⟩), .pointer (some ⟨yb, 0, none⟩)]] z (AskPost (asPl lb nb sb tb (.slice (some b1) bs.length pc) no) w0 (X ++ ([rowP 2 1 (.slice oa outs.length oc) outs.length (intC outs)] ++ [blkP yb 4 #[.bool b]])) T1 (askT (asA b) (T1.st s1))) := fun z hz =>
        Ask_task (pl := asPl lb nb sb tb (.slice (some b1) bs.length pc) no) hz hT HF.out 29 #[] #[.pointer (some ⟨sb, 0, none⟩), .pointer (some ⟨yb, 0, none⟩)] asA_enters b (asA b) rfl (fun Y T2 z2 hok hz2 => by
          have := asA_calls (yb := yb) hz2 hok (X.length + 1) b (by rw [List.append_assoc, List.getElem?_append_right (by omega)]; simp)
          simpa using this)
      have TC := Lib.hid tailC
      clear tailC
      by_cases hno : (k : Int) = no
      · have hnob : ((k : Int) == no) = true := by simpa using hno
        clear hno
        go_wp2_with fail
        refine (Ask_none _ _).mono ?_
        rintro e z9 ⟨rfl, F9⟩
        have HZ := Lib.hid (HAA.out.go F9)
        clear F9 HAA
        go_wp2_with fail
        refine (Do_none _ _).mono ?_
        rintro e w' ⟨rfl, hw⟩
        have hw := hw.symm
        subst hw
        have hP := HP.out
        rw [HD.out] at hP
        have C := TC.out z9 HZ.out
        cases hr : askT (asA b) (T1.st s1) with
        | mk r x' =>
          rw [hr] at C
          cases r with
          | none =>
            have hP2 : (.wait, x') = res := (run_none (f := asA b) (k := fun a => asP (bs.drop (k + 1)) (k + 1) (if a = 1 then outs ++ [(k : Int)] else outs)) hr).symm.trans hP
            have CC := Lib.hid C
            have HPP := Lib.hid hP2
            clear C hP hP2 hr TC HP HF hT HT
            go_wp2_with fail
            refine CC.out.mono ?_
            rintro e w' ⟨rfl, H⟩
            change bodyPost Try.prog Try.f28 _ (Exit.panic [waitE]) _ _
            refine ⟨rfl, ?_⟩
            rw [← HPP.out]
            refine ⟨rfl, ?_⟩
            rw [HY.out, ← List.append_assoc] at H
            exact H.first
          | some n =>
            have hP2 : (asP (bs.drop (k + 1)) (k + 1) (if n = 1 then outs ++ [(k : Int)] else outs)).run x' = res := (run_some (f := asA b) (k := fun a => asP (bs.drop (k + 1)) (k + 1) (if a = 1 then outs ++ [(k : Int)] else outs)) hr).symm.trans hP
            have HTT : Hid ((T1.of x').inn = true ∧ ∃ y, T1.of x' = T.of y) := Lib.hid ⟨hT, x', by rw [HY.out]; rfl⟩
            have HF' := Lib.hid (HF.out.ask hr)
            have CC := Lib.hid C
            have HPP := Lib.hid hP2
            clear C hP hP2 hr TC HP HF hT HT
            by_cases hn : n = 1
            · have hnb : (n == 1) = true := by simpa using hn
              have HN := Lib.hid hn
              clear hn
              go_wp2_with fail
              refine CC.out.mono ?_
              rintro e w' ⟨rfl, H⟩
              rw [← List.append_assoc, ← List.append_assoc] at H
              have H2 := H.first
              rw [List.append_assoc] at H2
              have QQ := Lib.hid (H2.row (4 + X.length) (t := 2) (sz := 1) (n := outs.length) (v := .slice oa outs.length oc) (us := intC outs) (by rw [List.getElem?_append_right (by simp [asPl]), List.getElem?_append_right (by simp [asPl])]; simp [asPl]))
              have HH2 := Lib.hid H2
              have hlm' : outs.length + 1 ≤ maxLen := by unfold maxLen; omega
              have hlb : (outs.length + 1) * 8 ≤ 140737488355328 := by omega
              have HB := Lib.hid (And.intro hlm' hlb)
              clear H H2 CC hlm' hlb
              go_wp2_with (at_builtin; refine wpList_append_typed _ rfl _ _ _ (by rfl) 2 i0 (.int .i64 0) 1 8 Try.underlying26 I0.out.1 I0.out.2.1 I0.out.2.2.1 I0.out.2.2.2 rfl (by decide) (.slice oa outs.length oc) outs.length (intC outs) (by rfl) (QQ.out.fr (F := nob) (by repeat (first | exact Fr.refl _ _ | apply Fr.drew | apply Fr.alloc)) (fun _ _ _ x => x)) _ 1 [.int .i64 (k : Nat)] (by rfl) (RdV.block (cs := #[.int .i64 (k : Nat)]) (t := 2) (by repeat (first | exact Blk.new' rfl _ _ | apply Blk.drew | apply Blk.alloc)) rfl (by decide)) (by simp [Value.oneCell']) HB.out.1 HB.out.2 ?_)
              intro a' c' w8 q' grow hat
              have G := HH2.out.growRow (4 + X.length) (t := 2) (sz := 1) (n := outs.length) (v := .slice oa outs.length oc) (us := intC outs) (by rw [List.getElem?_append_right (by simp [asPl]), List.getElem?_append_right (by simp [asPl])]; simp [asPl]) (Fr.alloc (Fr.refl nob w') (.cells #[.int .i64 (k : Nat)] 2)) q' grow (fun g hg => (hat g hg).imp_left (fun h => h.imp_right (fun h => by simpa using h)))
              have eG : ((asPl lb nb sb tb (.slice (some b1) bs.length pc) no).F x'.sh (T1.of x') ++ (X ++ [rowP 2 1 (.slice oa outs.length oc) outs.length (intC outs)])).set (4 + X.length) (rowP 2 1 (.slice a' (outs.length + 1) c') (outs.length + 1) (intC outs ++ [.int .i64 (k : Nat)])) = (asPl lb nb sb tb (.slice (some b1) bs.length pc) no).F x'.sh (T1.of x') ++ (X ++ [rowP 2 1 (.slice a' (outs.length + 1) c') (outs.length + 1) (intC outs ++ [.int .i64 (k : Nat)])]) := by
                rw [List.set_append_right _ _ (by simp [asPl])]
                congr 1
                rw [List.set_append_right _ _ (by simp [asPl])]
                simp [asPl]
              rw [eG] at G
              have GG := Lib.hid G
              clear G eG q' grow hat QQ HH2
              go_wp2_with fail
              refine ⟨⟨k + 1, x'.sh, T1.of x', outs ++ [(k : Int)], by go_num, by omega, by simp; omega, HTT, HF', Lib.hid (by rw [show (T1.of x').st x'.sh = x' from rfl]; have := HPP.out; rw [if_pos HN.out] at this; exact this), Lib.hid (by simpa [intC] using GG.out)⟩, by simp [intOf]; omega⟩
            · have hnb : (n == 1) = false := by simpa using hn
              have HN := Lib.hid hn
              clear hn
              go_wp2_with fail
              refine CC.out.mono ?_
              rintro e w' ⟨rfl, H⟩
              rw [← List.append_assoc, ← List.append_assoc] at H
              have H2 := H.first
              rw [List.append_assoc] at H2
              have HH2 := Lib.hid H2
              clear H H2 CC
              go_wp2_with fail
              refine ⟨⟨k + 1, x'.sh, T1.of x', outs, by go_num, by omega, by omega, HTT, HF', Lib.hid (by rw [show (T1.of x').st x'.sh = x' from rfl]; have := HPP.out; rw [if_neg HN.out] at this; exact this), HH2⟩, by simp [intOf]; omega⟩
      · have hnob : ((k : Int) == no) = false := by simpa using hno
        clear hno
        have HZ := HAA
        clear HAA
        generalize hz9 : W = z9 at *
        clear hz9
        have hP := HP.out
        rw [HD.out] at hP
        have C := TC.out z9 HZ.out
        cases hr : askT (asA b) (T1.st s1) with
        | mk r x' =>
          rw [hr] at C
          cases r with
          | none =>
            have hP2 : (.wait, x') = res := (run_none (f := asA b) (k := fun a => asP (bs.drop (k + 1)) (k + 1) (if a = 1 then outs ++ [(k : Int)] else outs)) hr).symm.trans hP
            have CC := Lib.hid C
            have HPP := Lib.hid hP2
            clear C hP hP2 hr TC HP HF hT HT
            go_wp2_with fail
            refine CC.out.mono ?_
            rintro e w' ⟨rfl, H⟩
            change bodyPost Try.prog Try.f28 _ (Exit.panic [waitE]) _ _
            refine ⟨rfl, ?_⟩
            rw [← HPP.out]
            refine ⟨rfl, ?_⟩
            rw [HY.out, ← List.append_assoc] at H
            exact H.first
          | some n =>
            have hP2 : (asP (bs.drop (k + 1)) (k + 1) (if n = 1 then outs ++ [(k : Int)] else outs)).run x' = res := (run_some (f := asA b) (k := fun a => asP (bs.drop (k + 1)) (k + 1) (if a = 1 then outs ++ [(k : Int)] else outs)) hr).symm.trans hP
            have HTT : Hid ((T1.of x').inn = true ∧ ∃ y, T1.of x' = T.of y) := Lib.hid ⟨hT, x', by rw [HY.out]; rfl⟩
            have HF' := Lib.hid (HF.out.ask hr)
            have CC := Lib.hid C
            have HPP := Lib.hid hP2
            clear C hP hP2 hr TC HP HF hT HT
            by_cases hn : n = 1
            · have hnb : (n == 1) = true := by simpa using hn
              have HN := Lib.hid hn
              clear hn
              go_wp2_with fail
              refine CC.out.mono ?_
              rintro e w' ⟨rfl, H⟩
              rw [← List.append_assoc, ← List.append_assoc] at H
              have H2 := H.first
              rw [List.append_assoc] at H2
              have QQ := Lib.hid (H2.row (4 + X.length) (t := 2) (sz := 1) (n := outs.length) (v := .slice oa outs.length oc) (us := intC outs) (by rw [List.getElem?_append_right (by simp [asPl]), List.getElem?_append_right (by simp [asPl])]; simp [asPl]))
              have HH2 := Lib.hid H2
              have hlm' : outs.length + 1 ≤ maxLen := by unfold maxLen; omega
              have hlb : (outs.length + 1) * 8 ≤ 140737488355328 := by omega
              have HB := Lib.hid (And.intro hlm' hlb)
              clear H H2 CC hlm' hlb
              go_wp2_with (at_builtin; refine wpList_append_typed _ rfl _ _ _ (by rfl) 2 i0 (.int .i64 0) 1 8 Try.underlying26 I0.out.1 I0.out.2.1 I0.out.2.2.1 I0.out.2.2.2 rfl (by decide) (.slice oa outs.length oc) outs.length (intC outs) (by rfl) (QQ.out.fr (F := nob) (by repeat (first | exact Fr.refl _ _ | apply Fr.drew | apply Fr.alloc)) (fun _ _ _ x => x)) _ 1 [.int .i64 (k : Nat)] (by rfl) (RdV.block (cs := #[.int .i64 (k : Nat)]) (t := 2) (by repeat (first | exact Blk.new' rfl _ _ | apply Blk.drew | apply Blk.alloc)) rfl (by decide)) (by simp [Value.oneCell']) HB.out.1 HB.out.2 ?_)
              intro a' c' w8 q' grow hat
              have G := HH2.out.growRow (4 + X.length) (t := 2) (sz := 1) (n := outs.length) (v := .slice oa outs.length oc) (us := intC outs) (by rw [List.getElem?_append_right (by simp [asPl]), List.getElem?_append_right (by simp [asPl])]; simp [asPl]) (Fr.alloc (Fr.refl nob w') (.cells #[.int .i64 (k : Nat)] 2)) q' grow (fun g hg => (hat g hg).imp_left (fun h => h.imp_right (fun h => by simpa using h)))
              have eG : ((asPl lb nb sb tb (.slice (some b1) bs.length pc) no).F x'.sh (T1.of x') ++ (X ++ [rowP 2 1 (.slice oa outs.length oc) outs.length (intC outs)])).set (4 + X.length) (rowP 2 1 (.slice a' (outs.length + 1) c') (outs.length + 1) (intC outs ++ [.int .i64 (k : Nat)])) = (asPl lb nb sb tb (.slice (some b1) bs.length pc) no).F x'.sh (T1.of x') ++ (X ++ [rowP 2 1 (.slice a' (outs.length + 1) c') (outs.length + 1) (intC outs ++ [.int .i64 (k : Nat)])]) := by
                rw [List.set_append_right _ _ (by simp [asPl])]
                congr 1
                rw [List.set_append_right _ _ (by simp [asPl])]
                simp [asPl]
              rw [eG] at G
              have GG := Lib.hid G
              clear G eG q' grow hat QQ HH2
              go_wp2_with fail
              refine ⟨⟨k + 1, x'.sh, T1.of x', outs ++ [(k : Int)], by go_num, by omega, by simp; omega, HTT, HF', Lib.hid (by rw [show (T1.of x').st x'.sh = x' from rfl]; have := HPP.out; rw [if_pos HN.out] at this; exact this), Lib.hid (by simpa [intC] using GG.out)⟩, by simp [intOf]; omega⟩
            · have hnb : (n == 1) = false := by simpa using hn
              have HN := Lib.hid hn
              clear hn
              go_wp2_with fail
              refine CC.out.mono ?_
              rintro e w' ⟨rfl, H⟩
              rw [← List.append_assoc, ← List.append_assoc] at H
              have H2 := H.first
              rw [List.append_assoc] at H2
              have HH2 := Lib.hid H2
              clear H H2 CC
              go_wp2_with fail
              refine ⟨⟨k + 1, x'.sh, T1.of x', outs, by go_num, by omega, by omega, HTT, HF', Lib.hid (by rw [show (T1.of x').st x'.sh = x' from rfl]; have := HPP.out; rw [if_neg HN.out] at this; exact this), HH2⟩, by simp [intOf]; omega⟩
    · have hd : bs.drop k = [] := List.drop_eq_nil_of_le (by omega)
      have hP := HP.out
      rw [hd] at hP
      have hP2 : (.done outs, T1.st s1) = res := hP
      have HP2 := Lib.hid hP2
      have HY := Lib.hid hy
      clear hP hP2 HP hd hy
      go_wp2_with fail
      go_ret
      rw [← HP2.out]
      refine ⟨oa, oc, rfl, ?_⟩
      have H := HH.out
      rw [← List.append_assoc] at H
      have e : T.of (T1.st s1) = T1 := by rw [HY.out]; rfl
      rw [e]
      exact H
end
end Go.Proofs.Ytblijgdmfohfcaa
