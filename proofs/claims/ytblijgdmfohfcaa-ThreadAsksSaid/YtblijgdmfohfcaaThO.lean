/- A thread: Ask, over tasks; Ask and Do of no touch. No condition but on the touch, what it comes to. -/
import Derived.Test.YtblijgdmfohfcaaThM
namespace Go.Proofs.Ytblijgdmfohfcaa
open Go Go.RowKit
set_option linter.unusedVariables false
set_option linter.unusedSimpArgs false
theorem nilask_nil (z : World) : (binOp BinOp.eql 24 .nilFunc .nilFunc).run Try.prog z = .ok (.bool true) z := by kernel_rfl
theorem niltouch_nil (z : World) : (binOp BinOp.eql 48 .nilFunc .nilFunc).run Try.prog z = .ok (.bool true) z := by kernel_rfl
theorem Ask_none (p : Value) (w : World) : Calls Try.prog 24 #[p, .nilFunc] w fun e w' => e = .returned (.bool false) ∧ Fr nob w w' := by
  have hnf := nilask_nil
  go_enter Try.func24, Try.ntmps24
  go_wp2_with fail
  go_ret
  exact ⟨rfl, (Fr.refl nob w).alloc _⟩
theorem Do_none (tb : Nat) (w : World) : Calls Try.prog 20 #[.pointer (some ⟨tb, 0, none⟩), .nilFunc] w fun e w' => e = .returned (.int .i64 0) ∧ w' = w := by
  have hnf := niltouch_nil
  go_enter Try.func20, Try.ntmps20
  go_wp2_with fail
  go_ret
  exact ⟨rfl, rfl⟩
theorem askIn_enters (x : Array Value) (z : World) : (callFunc 37 x).run Try.prog z = .ok (.enter 37 x) z := rfl
theorem askIn_calls {w : World} {K : Nat} {f : FuncId} {first cap : Array Value} {b : Bool} {P : World → Prop} (hk : w.cell? ⟨K, 0, none⟩ = some (.func (.func f) first cap))
    (hent : ∀ (x : Array Value) (z : World), (callFunc f x).run Try.prog z = .ok (.enter f x) z) (C : Calls Try.prog f (first ++ cap) w fun e w' => e = .returned (.bool b) ∧ P w') :
    Calls Try.prog 37 #[.pointer (some ⟨K, 0, none⟩)] w fun e w' => e = .returned (.int .i64 (if b = true then 1 else 0)) ∧ P w' := by
  have CC := Lib.hid C
  clear C
  go_enter Try.func37, Try.ntmps37
  go_wp2_with fail
  refine CC.out.mono ?_
  rintro e w' ⟨rfl, H⟩
  cases b
  · go_wp2_with fail
    go_ret
    exact ⟨rfl, H⟩
  · go_wp2_with fail
    go_ret
    exact ⟨rfl, H⟩
section
variable {σ : Type}
def AskPost (pl : Pl σ) (w0 : World) (X : List Piece) (T : Th) (r : Option Int × Tst σ) (e : Ending) (w' : World) : Prop := match r with
  | (some n, x') => e = .returned (.bool (n == 1)) ∧ Heap w0 w' (pl.F x'.sh (T.of x') ++ X)
  | (none, x') => e = .panicked [waitE] ∧ Heap w0 w' (pl.F x'.sh (T.of x') ++ X)
theorem Ask_task {w0 w : World} {pl : Pl σ} {X : List Piece} {s s' : σ} {T : Th} {ok : σ → Prop} (h : Heap w0 w (pl.F s T ++ X)) (hin : T.inn = true) (hf : Fit ok (T.st s)) (f : FuncId) (first cap : Array Value)
    (hent : ∀ (x : Array Value) (z : World), (callFunc f x).run Try.prog z = .ok (.enter f x) z) (b : Bool) (g : σ → Int × σ) (hg : g s = (if b = true then 1 else 0, s'))
    (ht : ∀ (Y : List Piece) T z, ok s → Heap w0 z (pl.F s T ++ (X ++ Y)) → Calls Try.prog f (first ++ cap) z fun e w' => e = .returned (.bool b) ∧ Heap w0 w' (pl.F s' T ++ (X ++ Y))) :
    Calls Try.prog 24 #[.pointer (some ⟨pl.tb, 0, none⟩), .func (.func f) first cap] w (AskPost pl w0 X T (askT g (T.st s))) := by
  have hmf : ∀ (fn : Fn) (first cap : Array Value) (z : World), (Instr.makeFunc fn first cap).run Try.prog z = .ok (.func fn first cap) z := fun _ _ _ _ => rfl
  have hnf := fun z => ask_nil (.func f) first cap z
  have H1 := h.alloc 24 #[.func (.func f) first cap]
  rw [List.append_assoc] at H1
  have C := Do_task (X := X ++ [blkP w.heap.size 24 #[.func (.func f) first cap]]) H1 hin hf 37 #[] #[.pointer (some ⟨w.heap.size, 0, none⟩)] askIn_enters g (fun T2 z hok hz => by
    have hk : z.cell? ⟨w.heap.size, 0, none⟩ = some (.func (.func f) first cap) := (hz.blk ((pl.F s T2).length + X.length) (b := w.heap.size) (t := 24) (c := #[.func (.func f) first cap]) (by rw [List.getElem?_append_right (by omega), Nat.add_sub_cancel_left, List.getElem?_append_right (by omega)]; simp)).cell 0
    have C1 := askIn_calls hk hent (ht [blkP w.heap.size 24 #[.func (.func f) first cap]] T2 z hok hz)
    rw [hg]
    simpa using C1)
  generalize hr : askT g (T.st s) = r at *
  obtain ⟨r, x'⟩ := r
  clear h H1 hr ht
  cases r with
  | none =>
    have CC := Lib.hid C
    clear C
    go_enter Try.func24, Try.ntmps24
    go_wp2_with fail
    refine CC.out.mono ?_
    rintro e w' ⟨rfl, H⟩
    change bodyPost Try.prog Try.f24 _ (Exit.panic [waitE]) _ _
    rw [← List.append_assoc] at H
    exact ⟨rfl, rfl, H.first⟩
  | some n =>
    have CC := Lib.hid C
    clear C
    go_enter Try.func24, Try.ntmps24
    go_wp2_with fail
    refine CC.out.mono ?_
    rintro e w' ⟨rfl, H⟩
    rw [← List.append_assoc] at H
    have HH := Lib.hid H.first
    clear H
    go_wp2_with fail
    go_ret
    exact ⟨rfl, HH.out⟩
end
end Go.Proofs.Ytblijgdmfohfcaa
