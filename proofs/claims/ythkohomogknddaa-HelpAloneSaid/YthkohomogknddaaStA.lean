/- A thread's operation in a world: Start; Alone. No condition but on its work, what it comes to. -/
import Derived.Test.YthkohomogknddaaRuns
import Derived.Test.YthkohomogknddaaTsk
namespace Go.Proofs.Ythkohomogknddaa
open Go Go.RowKit
set_option linter.unusedVariables false
set_option linter.unusedSimpArgs false
set_option maxRecDepth 100000
/-- What Start lays: the world's box, which thread, the work. -/
def stB (wb : Nat) (me : Int) (fv : Value) (b : Nat) : List Piece := [blkP b 24 #[.pointer (some ⟨wb, 0, none⟩)], blkP (b + 1) 3 #[.int .i64 me], blkP (b + 2) 42 #[fv]]
def stV (b : Nat) : Value := .func (.func 68) #[] #[.pointer (some ⟨b + 2, 0, none⟩), .pointer (some ⟨b, 0, none⟩), .pointer (some ⟨b + 1, 0, none⟩)]
theorem st_enters (x : Array Value) (z : World) : (callFunc 68 x).run Try.prog z = .ok (.enter 68 x) z := rfl
theorem Start_h {w0 w : World} {l : List Piece} (h : Heap w0 w l) (wb : Nat) (me : Int) (f : FuncId) (first cap : Array Value) :
    Calls Try.prog 20 #[.pointer (some ⟨wb, 0, none⟩), .int .i64 me, .func (.func f) first cap] w fun e w' => e = .returned (.pointer (some ⟨w.heap.size + 3, 0, none⟩)) ∧ Heap w0 w' (l ++ (stB wb me (.func (.func f) first cap) w.heap.size ++ [thP (w.heap.size + 3) (newTh (stV w.heap.size))])) := by
  have h1 := ((h.alloc 24 #[.pointer (some ⟨wb, 0, none⟩)]).alloc 3 #[.int .i64 me]).alloc 42 #[.func (.func f) first cap]
  have s1 : (w.alloc (.cells #[.pointer (some ⟨wb, 0, none⟩)] 24)).heap.size = w.heap.size + 1 := by simp
  have s2 : ((w.alloc (.cells #[.pointer (some ⟨wb, 0, none⟩)] 24)).alloc (.cells #[.int .i64 me] 3)).heap.size = w.heap.size + 2 := by simp
  have s3 : (((w.alloc (.cells #[.pointer (some ⟨wb, 0, none⟩)] 24)).alloc (.cells #[.int .i64 me] 3)).alloc (.cells #[.func (.func f) first cap] 42)).heap.size = w.heap.size + 3 := by simp
  rw [s1, s2, List.append_assoc, List.append_assoc] at h1
  have C := ThNew_h h1 68 #[] #[.pointer (some ⟨w.heap.size + 2, 0, none⟩), .pointer (some ⟨w.heap.size, 0, none⟩), .pointer (some ⟨w.heap.size + 1, 0, none⟩)]
  rw [s3] at C
  have CC := Lib.hid C
  have hmf : ∀ (fn : Fn) (first cap : Array Value) (z : World), (Instr.makeFunc fn first cap).run Try.prog z = .ok (.func fn first cap) z := fun _ _ _ _ => rfl
  clear h h1 C s1 s2 s3
  go_enter Try.func20, Try.ntmps20
  go_wp2_with fail
  refine CC.out.mono ?_
  rintro e w' ⟨rfl, H⟩
  have HH := Lib.hid H
  clear H CC
  go_wp2_with fail
  go_ret
  refine ⟨rfl, ?_⟩
  have := HH.out
  rw [List.append_assoc] at this
  exact this
/-- What a work's closure is: called with the task it does p, wherever H is so. -/
def Does (pl : Pl Wd) (c : Wc) (me : Int) (f : FuncId) (first cap : Array Value) (p : Wk (List Int)) (N : Nat) (H : Tst Wd → Prop) (w0 : World) : Prop :=
  ∀ (w : World) (X : List Piece) (T : Th) (x : Tst Wd), Heap w0 w (pl.F x.sh (T.of x) ++ X) → T.inn = true → FitW N x → H x → (p.run x).1 ≠ .stuck →
    Calls Try.prog f (first.push (tkV pl.tb c.wb me) ++ cap) w (TaskP pl w0 X T N (fun v val Y => ∃ a cp, val = .slice a v.length cp ∧ Y = [rowP 2 1 (.slice a v.length cp) v.length (intC v)]) (p.run x))
section
variable {w0 w : World} {pl : Pl Wd} {X : List Piece} {s : Wd} {T : Th} {c : Wc} {N : Nat} {me : Int} {x : Tst Wd} {f : FuncId} {first cap : Array Value} {p : Wk (List Int)} {H : Tst Wd → Prop}
/-- Where Start's boxes stand among what is shared. -/
structure StPl (pl : Pl Wd) (c : Wc) (me : Int) (fv : Value) (b : Nat) where
  bi : Nat
  g0 : ∀ s T, (pl.F s T)[bi]? = some (blkP b 24 #[.pointer (some ⟨c.wb, 0, none⟩)])
  g1 : ∀ s T, (pl.F s T)[bi + 1]? = some (blkP (b + 1) 3 #[.int .i64 me])
  g2 : ∀ s T, (pl.F s T)[bi + 2]? = some (blkP (b + 2) 42 #[fv])
theorem Start_work {b : Nat} (st : StPl pl c me (.func (.func f) first cap) b) (hd : Does pl c me f first cap p N H w0) (hent : ∀ (x : Array Value) (z : World), (callFunc f x).run Try.prog z = .ok (.enter f x) z)
    (h : Heap w0 w (pl.F x.sh (T.of x) ++ X)) (hin : T.inn = true) (hf : FitW N x) (hH : H x) (hns : (p.run x).1 ≠ .stuck) :
    Calls Try.prog 68 #[.pointer (some ⟨pl.tb, 0, none⟩), .pointer (some ⟨b + 2, 0, none⟩), .pointer (some ⟨b, 0, none⟩), .pointer (some ⟨b + 1, 0, none⟩)] w (WorkPost pl w0 X T (p.run x)) := by
  have k0 : w.cell? ⟨b, 0, none⟩ = some (.pointer (some ⟨c.wb, 0, none⟩)) := (h.blk st.bi (get_left (st.g0 _ _))).cell 0
  have k1 : w.cell? ⟨b + 1, 0, none⟩ = some (.int .i64 me) := (h.blk (st.bi + 1) (get_left (st.g1 _ _))).cell 0
  have k2 : w.cell? ⟨b + 2, 0, none⟩ = some (.func (.func f) first cap) := (h.blk (st.bi + 2) (get_left (st.g2 _ _))).cell 0
  have C := hd w X T x h hin hf hH hns
  unfold tkV at C
  have HN := Lib.hid hns
  clear h hd hf hH hns
  generalize p.run x = r at *
  obtain ⟨r, x'⟩ := r
  cases r with
  | stuck => exact absurd rfl HN.out
  | wait =>
    have CC := Lib.hid C
    clear C HN
    go_enter Try.func68, Try.ntmps68
    go_wp2_with fail
    refine CC.out.mono ?_
    rintro e w' ⟨rfl, H⟩
    change bodyPost Try.prog Try.f68 _ (Exit.panic [waitE]) _ _
    exact ⟨rfl, rfl, H⟩
  | done v =>
    have CC := Lib.hid C
    clear C HN
    go_enter Try.func68, Try.ntmps68
    go_wp2_with fail
    refine CC.out.mono ?_
    rintro e w' ⟨val, Y, rfl, ⟨a, cp, rfl, rfl⟩, _, H⟩
    have HH := Lib.hid H
    clear H
    go_wp2_with fail
    go_ret
    exact ⟨a, cp, rfl, HH.out⟩
end
end Go.Proofs.Ythkohomogknddaa
