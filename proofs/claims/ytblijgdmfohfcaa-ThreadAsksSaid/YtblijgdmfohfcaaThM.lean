/- A thread that is none, and one without work; Do and Ask outside of a Step. No condition. -/
import Derived.Test.YtblijgdmfohfcaaThL
namespace Go.Proofs.Ytblijgdmfohfcaa
open Go Go.RowKit
set_option linter.unusedVariables false
set_option linter.unusedSimpArgs false
theorem Done_nil (w : World) : Calls Try.prog 14 #[.pointer none] w fun e w' => e = .returned (.bool true) ∧ w' = w := by
  go_enter Try.func14, Try.ntmps14
  go_wp2_with fail
  go_ret
  exact ⟨rfl, rfl⟩
theorem Step_nil (w : World) : Calls Try.prog 12 #[.pointer none] w fun e w' => e = .returned (.bool true) ∧ w' = w := by
  go_enter Try.func12, Try.ntmps12
  go_wp2_with fail
  go_ret
  exact ⟨rfl, rfl⟩
theorem Out_nil (w : World) : Calls Try.prog 17 #[.pointer none] w fun e w' => e = .returned (.slice none 0 0) ∧ w' = w := by
  go_enter Try.func17, Try.ntmps17
  go_wp2_with fail
  go_ret
  exact ⟨rfl, rfl⟩
theorem Steps_nil (w : World) : Calls Try.prog 16 #[.pointer none] w fun e w' => e = .returned (.int .i64 0) ∧ w' = w := by
  go_enter Try.func16, Try.ntmps16
  go_wp2_with fail
  go_ret
  exact ⟨rfl, rfl⟩
theorem Do_nil (f : FuncId) (first cap : Array Value) (w : World) : Calls Try.prog 20 #[.pointer none, .func (.func f) first cap] w fun e w' => e = .returned (.int .i64 0) ∧ w' = w := by
  go_enter Try.func20, Try.ntmps20
  go_wp2_with fail
  go_ret
  exact ⟨rfl, rfl⟩
theorem ask_nil (fn : Fn) (first cap : Array Value) (z : World) : (binOp BinOp.eql 24 (.func fn first cap) .nilFunc).run Try.prog z = .ok (.bool false) z := by kernel_rfl
theorem nilwork_nil (z : World) : (binOp BinOp.eql 49 .nilFunc .nilFunc).run Try.prog z = .ok (.bool true) z := by kernel_rfl
theorem Ask_nil (f : FuncId) (first cap : Array Value) (w : World) : Calls Try.prog 24 #[.pointer none, .func (.func f) first cap] w fun e w' => e = .returned (.bool false) ∧ Fr nob w w' := by
  have hmf : ∀ (fn : Fn) (first cap : Array Value) (z : World), (Instr.makeFunc fn first cap).run Try.prog z = .ok (.func fn first cap) z := fun _ _ _ _ => rfl
  have hnf := fun z => ask_nil (.func f) first cap z
  go_enter Try.func24, Try.ntmps24
  go_wp2_with fail
  refine (Do_nil _ _ _ _).mono ?_
  rintro e w' ⟨rfl, hw⟩
  have hw := hw.symm
  subst hw
  go_wp2_with fail
  go_ret
  exact ⟨rfl, (Fr.refl nob w).alloc _⟩
section
variable {w0 w : World} {l : List Piece} {tb : Nat} {T : Th}
theorem New_nil (h : Heap w0 w l) : Calls Try.prog 18 #[.nilFunc] w fun e w' => e = .returned (.pointer (some ⟨w.heap.size, 0, none⟩)) ∧ Heap w0 w' (l ++ [thP w.heap.size (newTh .nilFunc)]) := by
  have key : Heap w0 (w.alloc (.cells ((newTh .nilFunc).cells (.slice none 0 0)) 58)) (l ++ [thP w.heap.size (newTh .nilFunc)]) := by
    have h1 := (h.alloc 58 ((newTh .nilFunc).cells (.slice none 0 0))).rowNil 2 1
    have h3 : Heap w0 (w.alloc (.cells ((newTh .nilFunc).cells (.slice none 0 0)) 58)) ((l ++ [nilP]).set l.length nilP ++ thL w.heap.size (.slice none 0 0) (newTh .nilFunc)) := by
      rw [List.set_append_right _ _ (Nat.le_refl _), Nat.sub_self, List.set_cons_zero, List.append_assoc]
      refine (h1.push (Fr.refl _ _) (p := nilP) (S := fun _ => False) trivial (fun _ x => x.elim)).idx (fun j => if j < l.length then j else if j = l.length then l.length + 2 else j - 1) (fun j hj => ?_) (fun a b ha hb e => ?_)
      · simp [thL] at hj
        by_cases h1 : j < l.length
        · simp only [h1, if_true]
          rw [List.getElem?_append_left h1, List.append_assoc, List.append_assoc, List.getElem?_append_left h1]
        · rcases (by omega : j = l.length ∨ j = l.length + 1 ∨ j = l.length + 2) with rfl | rfl | rfl <;> simp [thL, newTh, show ¬ (l.length + 1 < l.length) from by omega, show ¬ (l.length + 2 < l.length) from by omega]
      · simp [thL] at ha hb
        try simp only at e
        split at e <;> split at e <;> (try split at e) <;> (try split at e) <;> omega
    have h4 := h3.shutTh (by simp)
    rwa [List.set_append_right _ _ (Nat.le_refl _), Nat.sub_self, List.set_cons_zero] at h4
  have K := Lib.hid key
  clear key h
  go_enter Try.func18, Try.ntmps18
  go_wp2
  go_ret
  exact ⟨rfl, K.out⟩
theorem Done_nw (h : Heap w0 w l) (i : Nat) (hi : l[i]? = some (thP tb T)) (hwork : T.work = .nilFunc) : Calls Try.prog 14 #[.pointer (some ⟨tb, 0, none⟩)] w fun e w' => e = .returned (.bool true) ∧ w' = w := by
  obtain ⟨a, c, H0⟩ := h.openTh i hi
  have c0 : w.cell? ⟨tb, 0, none⟩ = some .nilFunc := by rw [← hwork]; exact H0.thBlk.cell 0
  have c5 : w.cell? ⟨tb, 5, none⟩ = some (.bool T.done) := H0.thBlk.cell 5
  have hnf := nilwork_nil
  clear h H0
  generalize T.done = d at *
  cases d
  · go_enter Try.func14, Try.ntmps14
    go_wp2_with fail
    go_ret
    exact ⟨rfl, rfl⟩
  · go_enter Try.func14, Try.ntmps14
    go_wp2_with fail
    go_ret
    exact ⟨rfl, rfl⟩
theorem Step_nw (h : Heap w0 w l) (i : Nat) (hi : l[i]? = some (thP tb T)) (hwork : T.work = .nilFunc) : Calls Try.prog 12 #[.pointer (some ⟨tb, 0, none⟩)] w fun e w' => e = .returned (.bool true) ∧ w' = w := by
  obtain ⟨a, c, H0⟩ := h.openTh i hi
  have c0 : w.cell? ⟨tb, 0, none⟩ = some .nilFunc := by rw [← hwork]; exact H0.thBlk.cell 0
  have c5 : w.cell? ⟨tb, 5, none⟩ = some (.bool T.done) := H0.thBlk.cell 5
  have hnf := nilwork_nil
  clear h H0
  generalize T.done = d at *
  cases d
  · go_enter Try.func12, Try.ntmps12
    go_wp2_with fail
    go_ret
    exact ⟨rfl, rfl⟩
  · go_enter Try.func12, Try.ntmps12
    go_wp2_with fail
    go_ret
    exact ⟨rfl, rfl⟩
/-- Outside of a Step: nothing. -/
theorem Do_outside (h : Heap w0 w l) (i : Nat) (hi : l[i]? = some (thP tb T)) (hin : T.inn = false) (f : FuncId) (first cap : Array Value) : Calls Try.prog 20 #[.pointer (some ⟨tb, 0, none⟩), .func (.func f) first cap] w fun e w' => e = .returned (.int .i64 0) ∧ w' = w := by
  obtain ⟨a, c, H0⟩ := h.openTh i hi
  have c4 : w.cell? ⟨tb, 4, none⟩ = some (.bool false) := by rw [← hin]; exact H0.thBlk.cell 4
  have hnf := fun z => func_nil (.func f) first cap z
  clear h H0
  go_enter Try.func20, Try.ntmps20
  go_wp2_with fail
  go_ret
  exact ⟨rfl, rfl⟩
theorem Ask_outside (h : Heap w0 w l) (i : Nat) (hi : l[i]? = some (thP tb T)) (hin : T.inn = false) (f : FuncId) (first cap : Array Value) : Calls Try.prog 24 #[.pointer (some ⟨tb, 0, none⟩), .func (.func f) first cap] w fun e w' => e = .returned (.bool false) ∧ Fr nob w w' := by
  have hmf : ∀ (fn : Fn) (first cap : Array Value) (z : World), (Instr.makeFunc fn first cap).run Try.prog z = .ok (.func fn first cap) z := fun _ _ _ _ => rfl
  have hnf := fun z => ask_nil (.func f) first cap z
  have HH := Lib.hid (fun o => h.skip o)
  clear h
  go_enter Try.func24, Try.ntmps24
  go_wp2_with fail
  refine (Do_outside (HH.out _) i hi hin _ _ _).mono ?_
  rintro e w' ⟨rfl, hw⟩
  have hw := hw.symm
  subst hw
  go_wp2_with fail
  go_ret
  exact ⟨rfl, (Fr.refl nob w).alloc _⟩
/-- A Step beside a runner; it is out of it again. -/
theorem Step_mkI {pl : Pl Ce} {cb A B : Nat} {pv : Value} {s : Ce} {T : Th} {R : Rn} {ps : List Tc} (mk : MkPl pl cb A B pv) (h : Heap w0 w (pl.F s T)) (hwork : T.work = mkV A B) (hdone : T.done = false) (hlog : T.log = R.told) (hI : RunI ps R)
    (hps : ∀ x ∈ ps, x.ok) (RR : RdV w0 pv ps.length 2 (tcC ps)) (hlen : ps.length ≤ 10000) (hok : s.log.length ≤ 900000) (hfew : R.told.length ≤ 900000) :
    Calls Try.prog 12 #[.pointer (some ⟨pl.tb, 0, none⟩)] w fun e z => ∃ T' Y, e = .returned (.bool (rnNext ps R s).1) ∧ Heap w0 z (pl.F (rnNext ps R s).2.2 T' ++ Y) ∧ T'.work = mkV A B ∧ T'.log = (rnNext ps R s).2.1.told ∧ T'.done = (rnNext ps R s).1 ∧ T'.inn = false ∧
      ((rnNext ps R s).1 = false → Y = []) ∧ ((rnNext ps R s).1 = true → ∃ a c, T'.out = .slice a (rnNext ps R s).2.1.told.length c ∧ Y = [rowP 2 1 (.slice a (rnNext ps R s).2.1.told.length c) (rnNext ps R s).2.1.told.length (intC (rnNext ps R s).2.1.told)]) := by
  obtain ⟨x', hx, hxl, hxs⟩ := hI.step s
  have C := Step_task (Y := []) (s := s) (T := T) (by rw [List.append_nil]; exact h) 33 #[] #[.pointer (some ⟨A, 0, none⟩), .pointer (some ⟨B, 0, none⟩)] hwork hdone mk_enters (prg false ps []) (by rw [hlog]; exact hI.told)
    (by rw [hlog, hx]; dsimp only; split <;> (intro x; cases x))
    (fun X z hz => by
      have := work_calls mk hz rfl ⟨Nat.zero_le _, by simp [Th.st, hlog]; omega, fun _ => ⟨by simp [Th.st, hlog]; omega, by unfold ceOk; exact hok⟩⟩ hps RR hlen
      exact this)
  rw [hlog, hx] at C
  refine C.mono fun e z hp => ?_
  by_cases hb : (rnNext ps R s).1 = true
  · rw [if_pos hb] at hp
    obtain ⟨a, c, rfl, H⟩ := hp
    refine ⟨{ T.of x' with inn := false, done := true, out := .slice a (rnNext ps R s).2.1.told.length c }, [rowP 2 1 (.slice a (rnNext ps R s).2.1.told.length c) (rnNext ps R s).2.1.told.length (intC (rnNext ps R s).2.1.told)], by rw [hb], by rw [← hxs]; simpa using H, hwork, hxl, by rw [hb], rfl, fun x => absurd (hb.symm.trans x) (by decide), fun _ => ⟨a, c, rfl, rfl⟩⟩
  · rw [if_neg hb] at hp
    obtain ⟨rfl, H⟩ := hp
    have hb' : (rnNext ps R s).1 = false := by simpa using hb
    refine ⟨{ T.of x' with inn := false }, [], by rw [hb'], by rw [← hxs]; exact H, hwork, hxl, by rw [hb']; exact hdone, rfl, fun _ => rfl, fun x => absurd x hb⟩
end
end Go.Proofs.Ytblijgdmfohfcaa
