/- An operation that goes round till a number is enough (ThreadLong): its work, as a task. No condition but the bounds of size. -/
import Derived.Test.YtblijgdmfohfcaaThM
namespace Go.Proofs.Ytblijgdmfohfcaa
open Go Go.RowKit
set_option linter.unusedVariables false
set_option linter.unusedSimpArgs false
def lgA (n : Int) : Int × Int := (n, n)
/-- At most so many rounds. -/
def lg : Nat → Int → Int → Prog Int (List Int)
  | 0, _, _ => .stuck
  | f + 1, want, k => .ask lgA fun a => if a < want then lg f want (k + 1) else .ret [k]
/-- A number, what is wanted, the operation. -/
def lgPl (nb wb tb : Nat) (want : Int) : Pl Int := { F := fun n T => [blkP nb 2 #[.int .i64 n], blkP wb 2 #[.int .i64 want], thP tb T], ti := 2, tb := tb, get := fun _ _ => rfl, put := fun _ _ _ => rfl }
def lgOk (n : Int) : Prop := True
section
variable {w0 w : World} {X : List Piece} {n want : Int} {T : Th} {nb wb tb : Nat}
theorem lgA_calls (h : Heap w0 w ((lgPl nb wb tb want).F n T ++ X)) : Calls Try.prog 21 #[.pointer (some ⟨nb, 0, none⟩)] w fun e w' => e = .returned (.int .i64 (lgA n).1) ∧ Heap w0 w' ((lgPl nb wb tb want).F (lgA n).2 T ++ X) := by
  have c0 : w.cell? ⟨nb, 0, none⟩ = some (.int .i64 n) := (h.blk 0 rfl).cell 0
  have HH := Lib.hid h
  clear h
  go_enter Try.func21, Try.ntmps21
  go_wp2_with fail
  go_ret
  exact ⟨rfl, HH.out⟩
theorem lgA_enters (x : Array Value) (z : World) : (callFunc 21 x).run Try.prog z = .ok (.enter 21 x) z := rfl
theorem lg_enters (x : Array Value) (z : World) : (callFunc 19 x).run Try.prog z = .ok (.enter 19 x) z := rfl
theorem askT_left {g : Int → Int × Int} {x x' : Tst Int} {a : Int} (e : askT g x = (some a, x')) (hle : x.at' ≤ x.log.length) : x'.log.length - x'.at' + (if x'.spent = true then 0 else 1) + 1 = x.log.length - x.at' + (if x.spent = true then 0 else 1) ∧ x'.at' = x.at' + 1 := by
  unfold askT at e
  split at e
  · rename_i hlt
    simp only [Prod.mk.injEq, Option.some.injEq] at e
    obtain ⟨_, rfl⟩ := e
    simp only
    exact ⟨by split <;> omega, trivial⟩
  · split at e
    · simp at e
    · rename_i h1 h2
      simp only [Prod.mk.injEq, Option.some.injEq] at e
      obtain ⟨_, rfl⟩ := e
      simp [h2] <;> omega
set_option maxHeartbeats 8000000 in
set_option maxRecDepth 100000 in
theorem lgWork_calls (F : Nat) (h : Heap w0 w ((lgPl nb wb tb want).F n T ++ X)) (hin : T.inn = true) (hf : Fit lgOk (T.st n)) (hat : T.at' = 0) (hF : T.log.length - T.at' + (if T.spent = true then 0 else 1) < F) :
    Calls Try.prog 19 #[.pointer (some ⟨tb, 0, none⟩), .pointer (some ⟨nb, 0, none⟩), .pointer (some ⟨wb, 0, none⟩)] w (WorkPost (lgPl nb wb tb want) w0 X T ((lg F want 0).run (T.st n))) := by
  have HH := Lib.hid h
  have HF := Lib.hid hf
  have HFF := Lib.hid hF
  have hmf : ∀ (fn : Fn) (first cap : Array Value) (z : World), (Instr.makeFunc fn first cap).run Try.prog z = .ok (.func fn first cap) z := fun _ _ _ _ => rfl
  generalize hP : (lg F want 0).run (T.st n) = res at *
  have HP := Lib.hid hP
  clear h hf hP hF
  go_enter Try.func19, Try.ntmps19
  go_wp2_with fail
  go_loopw [5] (fun i wr => ∃ (k f : Nat) (n1 : Int) (T1 : Th), i = .int .i64 (k : Nat) ∧ f ≤ F ∧ k ≤ 1000000 ∧ Hid (T1.inn = true ∧ (∃ y, T1 = T.of y) ∧ T1.at' = k) ∧ Hid (Fit lgOk (T1.st n1)) ∧ Hid (T1.log.length - T1.at' + (if T1.spent = true then 0 else 1) < f) ∧ Hid ((lg f want (k : Nat)).run (T1.st n1) = res) ∧ Hid (Heap w0 wr ((lgPl nb wb tb want).F n1 T1 ++ X))) (fun i _ => 1000001 - (intOf i).toNat)
  case atStart => exact ⟨0, F, n, T, rfl, Nat.le_refl _, Nat.zero_le _, Lib.hid ⟨hin, ⟨T.st n, rfl⟩, hat⟩, HF, HFF, HP, HH⟩
  case round =>
    clear HH HF HP HFF
    obtain ⟨k, f, n1, T1, rfl, hfF, hk, HT, HF, HFF, HP, HH⟩ := hrel
    obtain ⟨hT, ⟨y, hy⟩, hTk⟩ := HT.out
    obtain ⟨f, rfl⟩ : ∃ f', f = f' + 1 := ⟨f - 1, by have := HFF.out; omega⟩
    have q0 : wr.drew.cell? ⟨wb, 0, none⟩ = some (.int .i64 want) := (HH.out.blk 1 rfl).cell 0
    have C := Do_task HH.out.drew hT HF.out 21 #[] #[.pointer (some ⟨nb, 0, none⟩)] lgA_enters lgA (fun T2 z hok hz => by simpa using lgA_calls hz)
    change Calls Try.prog 20 #[.pointer (some ⟨tb, 0, none⟩), _] _ _ at C
    cases hr : askT lgA (T1.st n1) with
    | mk r x' =>
      rw [hr] at C
      have hP := HP.out
      cases r with
      | none =>
        have hP2 : (.wait, x') = res := (run_none (k := fun a => if a < want then lg f want (k + 1) else .ret [(k : Int)]) hr).symm.trans hP
        have CC := Lib.hid C
        have HPP := Lib.hid hP2
        have HY := Lib.hid hy
        clear C hP hP2 hr HP HH HF hy HT HFF
        go_upto_region 2 with fail
        refine AnyK.start (ks := []) (S := fun w' => w'.cell? ⟨wb, 0, none⟩ = some (.int .i64 want)) (by kernel_rfl) (by exact q0) (fun _ => ?_)
        refine AnyK.take (i := 0) (v := ?_) rfl (by kernel_rfl) (by kernel_rfl) (by kernel_rfl) (by kernel_rfl) (fun _ _ _ h => h) (Or.inl ⟨by rfl, ?_⟩) (by exact q0) ?_
        rotate_left
        focus
          intro w9 hSw
          try dsimp only at hSw
          go_simp
          try with_reducible rfl
        try simp only [Act.put, List.setIfInBounds_toArray, List.set_cons_zero, List.set_cons_succ]
        refine AnyK.take (i := 1) (v := ?_) rfl (by kernel_rfl) (by kernel_rfl) (by kernel_rfl) (by kernel_rfl) (fun _ _ _ h => h) (Or.inl ⟨by rfl, ?_⟩) (by exact q0) ?_
        rotate_left
        focus
          intro w9 hSw
          try dsimp only at hSw
          go_simp
          try with_reducible rfl
        try simp only [Act.put, List.setIfInBounds_toArray, List.set_cons_zero, List.set_cons_succ]
        refine AnyK.take (i := 3) (v := ?_) rfl (by kernel_rfl) (by kernel_rfl) (by kernel_rfl) (by kernel_rfl) (fun _ _ _ h => h) (Or.inl ⟨by rfl, ?_⟩) (by exact q0) ?_
        rotate_left
        focus
          intro w9 hSw
          try dsimp only at hSw
          go_simp
          try with_reducible rfl
        try simp only [Act.put, List.setIfInBounds_toArray, List.set_cons_zero, List.set_cons_succ]
        refine AnyK.one (i := 2) (by kernel_rfl) rfl (fun K9 hK9 => ?_)
        go_simp
        refine CC.out.mono ?_
        rintro e w' ⟨rfl, H⟩
        change bodyPost Try.prog Try.f19 _ (Exit.panic [waitE]) _ _
        refine ⟨rfl, ?_⟩
        rw [← HPP.out]
        refine ⟨rfl, ?_⟩
        rw [HY.out] at H
        exact H
      | some a =>
        have hP2 : (if a < want then lg f want (k + 1) else .ret [(k : Int)] : Prog Int (List Int)).run x' = res := (run_some (k := fun a => if a < want then lg f want (k + 1) else .ret [(k : Int)]) hr).symm.trans hP
        have hl1 : x'.log.length - x'.at' + (if x'.spent = true then 0 else 1) + 1 = T1.log.length - T1.at' + (if T1.spent = true then 0 else 1) := (askT_left hr HF.out.le).1
        have hl2 : x'.at' = T1.at' + 1 := (askT_left hr HF.out.le).2
        have HF' := Lib.hid (HF.out.ask hr)
        have HLL := Lib.hid (And.intro hl1 (And.intro hl2 (And.intro hTk HFF.out)))
        have HTT : Hid ((T1.of x').inn = true ∧ (∃ y, T1.of x' = T.of y) ∧ (T1.of x').at' = k + 1) := Lib.hid ⟨hT, ⟨x', by rw [hy]; rfl⟩, by show x'.at' = k + 1; rw [hl2, hTk]⟩
        have hkb : k + 1 ≤ 900001 := by
          have h1 := (HF.out.ask hr).le
          have h2 := (HF.out.ask hr).few
          have h3 : x'.at' = k + 1 := by rw [hl2, hTk]
          omega
        have CC := Lib.hid C
        have HPP := Lib.hid hP2
        clear C hP hP2 hr HP HH HF hT hTk HT HFF hl1 hl2
        by_cases ha : a < want
        · have HA := Lib.hid ha
          go_upto_region 2 with fail
          refine AnyK.start (ks := []) (S := fun w' => w'.cell? ⟨wb, 0, none⟩ = some (.int .i64 want)) (by kernel_rfl) (by exact q0) (fun _ => ?_)
          refine AnyK.take (i := 0) (v := ?_) rfl (by kernel_rfl) (by kernel_rfl) (by kernel_rfl) (by kernel_rfl) (fun _ _ _ h => h) (Or.inl ⟨by rfl, ?_⟩) (by exact q0) ?_
          rotate_left
          focus
            intro w9 hSw
            try dsimp only at hSw
            go_simp
            try with_reducible rfl
          try simp only [Act.put, List.setIfInBounds_toArray, List.set_cons_zero, List.set_cons_succ]
          refine AnyK.take (i := 1) (v := ?_) rfl (by kernel_rfl) (by kernel_rfl) (by kernel_rfl) (by kernel_rfl) (fun _ _ _ h => h) (Or.inl ⟨by rfl, ?_⟩) (by exact q0) ?_
          rotate_left
          focus
            intro w9 hSw
            try dsimp only at hSw
            go_simp
            try with_reducible rfl
          try simp only [Act.put, List.setIfInBounds_toArray, List.set_cons_zero, List.set_cons_succ]
          refine AnyK.take (i := 3) (v := ?_) rfl (by kernel_rfl) (by kernel_rfl) (by kernel_rfl) (by kernel_rfl) (fun _ _ _ h => h) (Or.inl ⟨by rfl, ?_⟩) (by exact q0) ?_
          rotate_left
          focus
            intro w9 hSw
            try dsimp only at hSw
            go_simp
            try with_reducible rfl
          try simp only [Act.put, List.setIfInBounds_toArray, List.set_cons_zero, List.set_cons_succ]
          refine AnyK.one (i := 2) (by kernel_rfl) rfl (fun K9 hK9 => ?_)
          go_simp
          refine CC.out.mono ?_
          rintro e w' ⟨rfl, H⟩
          have q1 : w'.cell? ⟨wb, 0, none⟩ = some (.int .i64 want) := (H.blk 1 rfl).cell 0
          refine hK9.out _ _ (fun _ => q1) ?_
          clear hK9 K9
          try simp only [Act.put, List.setIfInBounds_toArray, List.set_cons_zero, List.set_cons_succ]
          refine AnyK.one (i := 4) (by kernel_rfl) rfl (fun K9 hK9 => ?_)
          go_simp
          refine hK9.out _ _ (fun _ => q1) ?_
          clear hK9 K9
          try simp only [Act.put, List.setIfInBounds_toArray, List.set_cons_zero, List.set_cons_succ]
          refine AnyK.done (by kernel_rfl) ?_ _
          have hP3 := HPP.out
          rw [if_pos HA.out] at hP3
          have HP3 := Lib.hid hP3
          have HH1 := Lib.hid H
          clear hP3 H
          go_wp2_with fail
          refine ⟨⟨k + 1, f, x'.sh, T1.of x', by go_num, by omega, by omega, HTT, HF', Lib.hid (by have := HLL.out; show x'.log.length - x'.at' + (if x'.spent = true then 0 else 1) < f; have h1 := this.1; have h2 := this.2.2.2; omega), Lib.hid (by rw [show (T1.of x').st x'.sh = x' from rfl]; have := HP3.out; simpa using this), HH1⟩, by simp [intOf]; omega⟩
        · have HA := Lib.hid ha
          go_upto_region 2 with fail
          refine AnyK.start (ks := []) (S := fun w' => w'.cell? ⟨wb, 0, none⟩ = some (.int .i64 want)) (by kernel_rfl) (by exact q0) (fun _ => ?_)
          refine AnyK.take (i := 0) (v := ?_) rfl (by kernel_rfl) (by kernel_rfl) (by kernel_rfl) (by kernel_rfl) (fun _ _ _ h => h) (Or.inl ⟨by rfl, ?_⟩) (by exact q0) ?_
          rotate_left
          focus
            intro w9 hSw
            try dsimp only at hSw
            go_simp
            try with_reducible rfl
          try simp only [Act.put, List.setIfInBounds_toArray, List.set_cons_zero, List.set_cons_succ]
          refine AnyK.take (i := 1) (v := ?_) rfl (by kernel_rfl) (by kernel_rfl) (by kernel_rfl) (by kernel_rfl) (fun _ _ _ h => h) (Or.inl ⟨by rfl, ?_⟩) (by exact q0) ?_
          rotate_left
          focus
            intro w9 hSw
            try dsimp only at hSw
            go_simp
            try with_reducible rfl
          try simp only [Act.put, List.setIfInBounds_toArray, List.set_cons_zero, List.set_cons_succ]
          refine AnyK.take (i := 3) (v := ?_) rfl (by kernel_rfl) (by kernel_rfl) (by kernel_rfl) (by kernel_rfl) (fun _ _ _ h => h) (Or.inl ⟨by rfl, ?_⟩) (by exact q0) ?_
          rotate_left
          focus
            intro w9 hSw
            try dsimp only at hSw
            go_simp
            try with_reducible rfl
          try simp only [Act.put, List.setIfInBounds_toArray, List.set_cons_zero, List.set_cons_succ]
          refine AnyK.one (i := 2) (by kernel_rfl) rfl (fun K9 hK9 => ?_)
          go_simp
          refine CC.out.mono ?_
          rintro e w' ⟨rfl, H⟩
          have q1 : w'.cell? ⟨wb, 0, none⟩ = some (.int .i64 want) := (H.blk 1 rfl).cell 0
          refine hK9.out _ _ (fun _ => q1) ?_
          clear hK9 K9
          try simp only [Act.put, List.setIfInBounds_toArray, List.set_cons_zero, List.set_cons_succ]
          refine AnyK.one (i := 4) (by kernel_rfl) rfl (fun K9 hK9 => ?_)
          go_simp
          refine hK9.out _ _ (fun _ => q1) ?_
          clear hK9 K9
          try simp only [Act.put, List.setIfInBounds_toArray, List.set_cons_zero, List.set_cons_succ]
          refine AnyK.done (by kernel_rfl) ?_ _
          have hP3 := HPP.out
          rw [if_neg HA.out] at hP3
          have hP4 : (.done [(k : Int)], x') = res := hP3
          have HP4 := Lib.hid hP4
          have HY := Lib.hid hy
          have HH1 := Lib.hid H
          clear hP3 hP4 H
          go_wp2_with fail
          go_ret
          rw [← HP4.out]
          refine ⟨some ⟨w'.heap.size, 0, none⟩, 1, rfl, ?_⟩
          have H5 := HH1.out.freshRow 2 1 [.int .i64 (k : Nat)] rfl (by decide)
          rw [HY.out] at H5
          exact H5
end
end Go.Proofs.Ytblijgdmfohfcaa
