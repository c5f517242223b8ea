/- The laws' fixed fact (Awake). No condition. -/
import Derived.Test.YtblijgdmfohfcaaThJ
namespace Go.Proofs.Ytblijgdmfohfcaa
open Go Go.RowKit
set_option linter.unusedVariables false
set_option linter.unusedSimpArgs false
def aw1 (n : Int) : Int × Int := (n + 1, n + 1)
def aw2 (n : Int) : Int × Int := (n + 10, n + 10)
def awP : Prog Int (List Int) := .ask aw1 fun a => .ask aw2 fun b => .ret [a, b]
def awPl (nb tb : Nat) : Pl Int := { F := fun s T => [blkP nb 2 #[.int .i64 s], thP tb T], ti := 1, tb := tb, get := fun _ _ => rfl, put := fun _ _ _ => rfl }
def awOk (s : Int) : Prop := 0 ≤ s ∧ s ≤ 100
theorem Heap.freshRow {w0 w : World} {l : List Piece} (h : Heap w0 w l) (t : TypeId) (n : Nat) (us : List Value) (hl : us.length = n) (hm : n ≤ maxLen) : Heap w0 (w.alloc (.cells us.toArray t)) (l ++ [rowP t 1 (.slice (some ⟨w.heap.size, 0, none⟩) n n) n us]) := by
  refine h.pushRow (Fr.alloc (Fr.refl _ _) _) ⟨by simp [hl], _, n, rfl, Nat.le_refl _, hm, .inr ⟨_, 0, _, rfl, Blk.new _ _ _, by simp [hl], fun j u hu => by simpa using hu⟩⟩ (fun g hg => ?_)
  simp [Value.ownBlock] at hg
  subst hg
  exact ⟨Nat.le_refl _, by simp, _, Blk.new _ _ _⟩
section
variable {w0 w : World} {X : List Piece} {s : Int} {T : Th} {nb tb : Nat}
theorem aw1_calls (h : Heap w0 w ((awPl nb tb).F s T ++ X)) (ok : awOk s) : Calls Try.prog 31 #[.pointer (some ⟨nb, 0, none⟩)] w fun e w' => e = .returned (.int .i64 (aw1 s).1) ∧ Heap w0 w' ((awPl nb tb).F (aw1 s).2 T ++ X) := by
  obtain ⟨o0, o1⟩ := ok
  have B := h.blk 0 (b := nb) (t := 2) (c := #[.int .i64 s]) rfl
  have c0 : w.cell? ⟨nb, 0, none⟩ = some (.int .i64 s) := B.cell 0
  have z0 := B.froz 0
  have G : Heap w0 (w.setCell ⟨nb, 0, none⟩ (.int .i64 (s + 1))) ((awPl nb tb).F (aw1 s).2 T ++ X) := h.setCell 0 (b := nb) (t := 2) (c := #[.int .i64 s]) rfl 0 (.int .i64 (s + 1))
  have GG := Lib.hid G
  clear h B G
  go_enter Try.func31, Try.ntmps31
  go_wp2_with fail
  go_ret
  exact ⟨rfl, GG.out⟩
theorem aw2_calls (h : Heap w0 w ((awPl nb tb).F s T ++ X)) (ok : awOk s) : Calls Try.prog 32 #[.pointer (some ⟨nb, 0, none⟩)] w fun e w' => e = .returned (.int .i64 (aw2 s).1) ∧ Heap w0 w' ((awPl nb tb).F (aw2 s).2 T ++ X) := by
  obtain ⟨o0, o1⟩ := ok
  have B := h.blk 0 (b := nb) (t := 2) (c := #[.int .i64 s]) rfl
  have c0 : w.cell? ⟨nb, 0, none⟩ = some (.int .i64 s) := B.cell 0
  have z0 := B.froz 0
  have G : Heap w0 (w.setCell ⟨nb, 0, none⟩ (.int .i64 (s + 10))) ((awPl nb tb).F (aw2 s).2 T ++ X) := h.setCell 0 (b := nb) (t := 2) (c := #[.int .i64 s]) rfl 0 (.int .i64 (s + 10))
  have GG := Lib.hid G
  clear h B G
  go_enter Try.func32, Try.ntmps32
  go_wp2_with fail
  go_ret
  exact ⟨rfl, GG.out⟩
theorem aw1_enters (x : Array Value) (z : World) : (callFunc 31 x).run Try.prog z = .ok (.enter 31 x) z := rfl
theorem aw2_enters (x : Array Value) (z : World) : (callFunc 32 x).run Try.prog z = .ok (.enter 32 x) z := rfl
theorem aw_enters (x : Array Value) (z : World) : (callFunc 30 x).run Try.prog z = .ok (.enter 30 x) z := rfl
set_option maxHeartbeats 4000000 in
theorem awWork_calls (h : Heap w0 w ((awPl nb tb).F s T ++ X)) (hin : T.inn = true) (hf : Fit awOk (T.st s)) :
    Calls Try.prog 30 #[.pointer (some ⟨tb, 0, none⟩), .pointer (some ⟨nb, 0, none⟩)] w (WorkPost (awPl nb tb) w0 X T (awP.run (T.st s))) := by
  have hmf : ∀ (fn : Fn) (first cap : Array Value) (z : World), (Instr.makeFunc fn first cap).run Try.prog z = .ok (.func fn first cap) z := fun _ _ _ _ => rfl
  have C := Do_task h hin hf 31 #[] #[.pointer (some ⟨nb, 0, none⟩)] aw1_enters aw1 (fun T2 z hok hz => by simpa using aw1_calls hz hok)
  change Calls Try.prog 20 #[.pointer (some ⟨tb, 0, none⟩), _] w _ at C
  cases hr : askT aw1 (T.st s) with
  | mk r x' =>
    rw [hr] at C
    cases r with
    | none =>
      have e : awP.run (T.st s) = (.wait, x') := run_none hr
      have CC := Lib.hid C
      rw [e]
      clear C hr h e
      go_enter Try.func30, Try.ntmps30
      go_wp2_with fail
      refine CC.out.mono ?_
      rintro e w' ⟨rfl, H⟩
      change bodyPost Try.prog Try.f30 _ (Exit.panic [waitE]) _ _
      exact ⟨rfl, rfl, H⟩
    | some n =>
      have e : awP.run (T.st s) = (Prog.ask aw2 fun b => .ret [n, b]).run x' := run_some hr
      rw [e]
      have hf' := hf.ask hr
      have CC := Lib.hid C
      clear C hr h e
      have C2 := fun z (hz : Heap w0 z ((awPl nb tb).F x'.sh (T.of x') ++ X)) => Do_task (pl := awPl nb tb) (s := x'.sh) (T := T.of x') hz hin hf' 32 #[] #[.pointer (some ⟨nb, 0, none⟩)] aw2_enters aw2 (fun T2 z hok hz => by simpa using aw2_calls hz hok)
      change ∀ z, _ → Calls Try.prog 20 #[.pointer (some ⟨tb, 0, none⟩), _] z (DoPost _ _ _ _ (askT aw2 x')) at C2
      cases hr2 : askT aw2 x' with
      | mk r2 x2 =>
        rw [hr2] at C2
        cases r2 with
        | none =>
          have e : (Prog.ask aw2 fun b => .ret [n, b] : Prog Int (List Int)).run x' = (.wait, x2) := run_none hr2
          rw [e]
          have CC2 := Lib.hid C2
          clear C2 hr2 e
          go_enter Try.func30, Try.ntmps30
          go_wp2_with fail
          refine CC.out.mono ?_
          rintro e w' ⟨rfl, H⟩
          go_wp2_with fail
          refine (CC2.out _ H).mono ?_
          rintro e w' ⟨rfl, H⟩
          change bodyPost Try.prog Try.f30 _ (Exit.panic [waitE]) _ _
          exact ⟨rfl, rfl, H⟩
        | some m =>
          have e : (Prog.ask aw2 fun b => .ret [n, b] : Prog Int (List Int)).run x' = (.done [n, m], x2) := run_some hr2
          rw [e]
          have CC2 := Lib.hid C2
          clear C2 hr2 e
          go_enter Try.func30, Try.ntmps30
          go_wp2_with fail
          refine CC.out.mono ?_
          rintro e w' ⟨rfl, H⟩
          go_wp2_with fail
          refine (CC2.out _ H).mono ?_
          rintro e w' ⟨rfl, H⟩
          go_wp2_with fail
          go_ret
          refine ⟨some ⟨w'.heap.size, 0, none⟩, 2, rfl, ?_⟩
          exact H.freshRow 2 2 [.int .i64 n, .int .i64 m] rfl (by decide)
set_option maxHeartbeats 8000000 in
set_option maxRecDepth 100000 in
theorem Awake_calls (w0 w : World) (h : Fr nob w0 w) : Calls Try.prog 10 #[] w fun e w' => e = .returned (.bool true) ∧ Fr nob w0 w' := by
  have H0 : Heap w0 w [] := (Heap.start w0).go h
  clear h
  have hmf : ∀ (fn : Fn) (first cap : Array Value) (z : World), (Instr.makeFunc fn first cap).run Try.prog z = .ok (.func fn first cap) z := fun _ _ _ _ => rfl
  have H1 := H0.alloc 2 #[.int .i64 0]
  go_enter Try.func10, Try.ntmps10
  go_wp2_with fail
  generalize hW : w.alloc (.cells #[.int .i64 0] 2) = W at *
  generalize w.heap.size = nb at *
  clear hW H0
  have C := ThNew_h H1 30 #[] #[.pointer (some ⟨nb, 0, none⟩)]
  generalize W.heap.size = tb at *
  refine C.mono ?_
  clear C
  rintro e w2 ⟨rfl, H2⟩
  have H2 : Heap w0 w2 ((awPl nb tb).F 0 (newTh (.func (.func 30) #[] #[.pointer (some ⟨nb, 0, none⟩)])) ++ []) := H2
  have S1 := Step_task (pl := awPl nb tb) H2 30 #[] #[.pointer (some ⟨nb, 0, none⟩)] rfl rfl aw_enters awP trivial (by intro x; cases x) (fun X z hz => by
    have := awWork_calls hz rfl ⟨Nat.zero_le _, Nat.zero_le _, fun _ => ⟨Nat.zero_le _, by unfold awOk Th.st; simp⟩⟩
    rw [show (#[] : Array Value).push (.pointer (some ⟨(awPl nb tb).tb, 0, none⟩)) ++ #[.pointer (some ⟨nb, 0, none⟩)] = #[.pointer (some ⟨tb, 0, none⟩), .pointer (some ⟨nb, 0, none⟩)] from rfl]
    exact this)
  change Calls Try.prog 12 #[.pointer (some ⟨tb, 0, none⟩)] w2 (StepPost (awPl nb tb) w0 [] _ (.wait, ⟨[1], 1, true, 1⟩)) at S1
  have SS := Lib.hid S1
  clear S1 H2 H1
  go_wp2_with fail
  refine SS.out.mono ?_
  rintro e w3 ⟨rfl, H3⟩
  clear SS
  have T1 : Heap w0 w3 [blkP nb 2 #[.int .i64 1], thP tb ⟨.func (.func 30) #[] #[.pointer (some ⟨nb, 0, none⟩)], [1], 1, true, false, false, .slice none 0 0⟩] := H3
  have D1 := Done_h T1 1 rfl 30 #[] #[.pointer (some ⟨nb, 0, none⟩)] rfl
  have O1 := Out_none T1 1 rfl rfl
  have S2 := Step_task (pl := awPl nb tb) (s := 1) (T := ⟨.func (.func 30) #[] #[.pointer (some ⟨nb, 0, none⟩)], [1], 1, true, false, false, .slice none 0 0⟩) (Y := []) T1 30 #[] #[.pointer (some ⟨nb, 0, none⟩)] rfl rfl aw_enters awP trivial (by intro x; cases x) (fun X z hz => by
    have := awWork_calls hz rfl ⟨Nat.zero_le _, by simp [Th.st], fun _ => ⟨by simp [Th.st], by unfold awOk Th.st; simp⟩⟩
    rw [show (#[] : Array Value).push (.pointer (some ⟨(awPl nb tb).tb, 0, none⟩)) ++ #[.pointer (some ⟨nb, 0, none⟩)] = #[.pointer (some ⟨tb, 0, none⟩), .pointer (some ⟨nb, 0, none⟩)] from rfl]
    exact this)
  change Calls Try.prog 12 #[.pointer (some ⟨tb, 0, none⟩)] w3 (StepPost (awPl nb tb) w0 [] _ (.done [1, 11], ⟨[1, 11], 2, true, 11⟩)) at S2
  have DD := Lib.hid D1
  have OO := Lib.hid O1
  have SS := Lib.hid S2
  clear D1 O1 S2 H3 T1
  go_wp2_with fail
  refine DD.out.mono ?_
  rintro e w' ⟨rfl, hw⟩
  have hw := hw.symm
  subst hw
  go_wp2_with fail
  refine OO.out.mono ?_
  rintro e w' ⟨rfl, hw⟩
  have hw := hw.symm
  subst hw
  go_wp2_with fail
  refine SS.out.mono ?_
  rintro e w4 ⟨a, c, rfl, H4⟩
  clear SS DD OO
  have T2 : Heap w0 w4 [blkP nb 2 #[.int .i64 11], thP tb ⟨.func (.func 30) #[] #[.pointer (some ⟨nb, 0, none⟩)], [1, 11], 2, true, false, true, .slice a 2 c⟩, rowP 2 1 (.slice a 2 c) 2 (intC [1, 11])] := H4
  have O1 := Out_some T2 1 rfl rfl a 2 c rfl [1, 11] (T2.row 2 rfl).rdv (by decide)
  have OO := Lib.hid O1
  clear O1 H4 T2
  go_wp2_with fail
  refine OO.out.mono ?_
  rintro e w5 ⟨a2, c2, rfl, H5⟩
  clear OO
  have T3 : Heap w0 w5 [blkP nb 2 #[.int .i64 11], thP tb ⟨.func (.func 30) #[] #[.pointer (some ⟨nb, 0, none⟩)], [1, 11], 2, true, false, true, .slice a 2 c⟩, rowP 2 1 (.slice a 2 c) 2 (intC [1, 11]), rowP 2 1 (.slice a2 2 c2) 2 (intC [1, 11])] := H5
  obtain ⟨g, off, cur, rfl, _, hcap, hat⟩ := (T3.row 3 rfl).at (by decide)
  have y0 : w5.cell? ⟨g, off + 0, none⟩ = some (.int .i64 1) := hat 0 _ rfl
  have y1 : w5.cell? ⟨g, off + 1, none⟩ = some (.int .i64 11) := hat 1 _ rfl
  have yn : w5.cell? ⟨nb, 0, none⟩ = some (.int .i64 11) := (T3.blk 0 rfl).cell 0
  have D1 := Done_h T3 1 rfl 30 #[] #[.pointer (some ⟨nb, 0, none⟩)] rfl
  have N1 := Steps_h T3 1 rfl
  have DD := Lib.hid D1
  have NN := Lib.hid N1
  have FF := Lib.hid T3.fr
  clear D1 N1 T3 H5 hat
  rw [Nat.add_zero] at y0
  go_wp2_with fail
  refine DD.out.mono ?_
  rintro e w' ⟨rfl, hw⟩
  have hw := hw.symm
  subst hw
  go_wp2_with fail
  refine NN.out.mono ?_
  rintro e w' ⟨rfl, hw⟩
  have hw := hw.symm
  subst hw
  go_wp2_with fail
  go_ret
  exact ⟨rfl, FF.out⟩
end
end Go.Proofs.Ytblijgdmfohfcaa
