/- A helper as an operation of a thread: what it does; begun and alone; what it answered. No condition but the bounds of size. -/
import Derived.Test.YthkohomogknddaaHlp
import Derived.Test.YthkohomogknddaaNew
namespace Go.Proofs.Ythkohomogknddaa
open Go Go.RowKit
set_option linter.unusedVariables false
set_option linter.unusedSimpArgs false
set_option maxRecDepth 100000
def helperP (n : Int) : Wk (List Int) := (helpP n).bind fun b => .ret [bit b]
theorem helper_enters (x : Array Value) (z : World) : (callFunc 89 x).run Try.prog z = .ok (.enter 89 x) z := rfl
theorem Heap.rowOne {w0 w : World} {l : List Piece} (h : Heap w0 w l) (t : TypeId) (v : Value) : Heap w0 (w.alloc (.cells #[v] t)) (l ++ [rowP t 1 (.slice (some ⟨w.heap.size, 0, none⟩) 1 1) 1 [v]]) := by
  have hb : Blk (w.alloc (.cells #[v] t)) w.heap.size t #[v] := (h.alloc t #[v]).blk l.length (by simp)
  refine h.pushRow ((Fr.refl _ _).alloc _) ⟨rfl, some ⟨w.heap.size, 0, none⟩, 1, rfl, Nat.le_refl _, by decide, .inr ⟨w.heap.size, 0, #[v], rfl, hb, by simp, fun j u hu => ?_⟩⟩ (fun g hg => ?_)
  · cases j with
    | zero => simpa using hu
    | succ j => simp at hu
  · simp [Value.ownBlock] at hg
    subst hg
    exact ⟨Nat.le_refl _, by simp, _, hb⟩
section
variable {w0 w : World} {pl : Pl Wd} {c : Wc} {me : Int} {N : Nat}
set_option maxHeartbeats 2000000 in
theorem helper_does (wp : WdPl pl c) (hN : N ≤ 50000) {nb : Nat} {n : Int} (ni : Nat) (hl : ∀ s T, (pl.F s T)[ni]? = some (blkP nb 2 #[.int .i64 n])) :
    Does pl c me 89 #[] #[.pointer (some ⟨nb, 0, none⟩)] (helperP n) N (fun _ => True) w0 := by
  intro w X T x h hin hf hH hns
  have h1 := h.alloc 41 #[.pointer (some ⟨pl.tb, 0, none⟩), .pointer (some ⟨c.wb, 0, none⟩), .int .i64 me]
  rw [List.append_assoc] at h1
  generalize hHs : w.heap.size = b0 at *
  obtain ⟨k0, k1, k2⟩ := tk_cells (tk := b0) (me := me) (tb := pl.tb) (wb := c.wb) h1 X.length (by simp [tkP])
  have kl : (w.alloc (.cells #[.pointer (some ⟨pl.tb, 0, none⟩), .pointer (some ⟨c.wb, 0, none⟩), .int .i64 me] 41)).cell? ⟨nb, 0, none⟩ = some (.int .i64 n) := (h1.blk ni (get_left (hl _ _))).cell 0
  have C := Record_task (me := me) wp h1 hin hf hN n (Wk.bind_ns (q := fun b => (.ret [bit b] : Wk (List Int))) hns)
  unfold tkV at C
  rcases hq : (helpP n).run x with ⟨r, x1⟩
  rw [hq] at C
  clear h h1
  cases r with
  | stuck => exact absurd (by rw [hq]) (Wk.bind_ns (q := fun b => (.ret [bit b] : Wk (List Int))) hns)
  | wait =>
    have HR : Hid ((helperP n).run x = (.wait, x1)) := Lib.hid (Wk.bind_wait hq)
    have CC := Lib.hid C
    clear C hns hq hf hH
    unfold tkV
    go_enter Try.func89, Try.ntmps89
    go_wp2_with fail
    refine CC.out.mono ?_
    rintro e w' ⟨rfl, H⟩
    change bodyPost Try.prog Try.f89 _ (Exit.panic [waitE]) _ _
    rw [HR.out]
    exact ⟨rfl, rfl, H.dropX⟩
  | done b =>
    have hR : (helperP n).run x = (.ret [bit b] : Wk (List Int)).run x1 := Wk.bind_done hq
    have HR := Lib.hid hR
    have CC := Lib.hid C
    clear C hns hq hf hH hR
    unfold tkV
    go_enter Try.func89, Try.ntmps89
    go_wp2_with fail
    refine CC.out.mono ?_
    rintro e w' ⟨val, Y, rfl, ⟨rfl, rfl⟩, hf1, H⟩
    rw [List.append_nil] at H
    clear CC k0 k1 k2
    have HH := Lib.hid H.dropX
    have HF := Lib.hid hf1
    clear H hf1
    cases b with
    | true =>
      go_wp2_with fail
      go_ret
      rw [HR.out]
      exact ⟨_, [rowP 2 1 (.slice (some ⟨w'.heap.size, 0, none⟩) 1 1) 1 (intC [1])], rfl, ⟨_, _, rfl, rfl⟩, HF.out, HH.out.rowOne _ _⟩
    | false =>
      go_wp2_with fail
      go_ret
      rw [HR.out]
      exact ⟨_, [rowP 2 1 (.slice (some ⟨w'.heap.size, 0, none⟩) 1 1) 1 (intC [0])], rfl, ⟨_, _, rfl, rfl⟩, HF.out, HH.out.rowOne _ _⟩
end
section
variable {w0 w : World} {Z : List Piece} {c : Wc} {s s' : Wd} {N : Nat} {me : Int} {f : FuncId} {first cap : Array Value} {p : Wk (List Int)} {H : Tst Wd → Prop} {E G : Ev} {l v : List Int}
/-- An operation is begun, and goes on alone to its end; the thread stays. -/
theorem Start_alone2 (h : Heap w0 w (wdL c s ++ Z)) (hd : ∀ M b tb, M ≤ 50000 → Does (wdPl c (Z ++ stB c.wb me (.func (.func f) first cap) b) [] tb) c me f first cap p M H w0) (hent : ∀ (x : Array Value) (z : World), (callFunc f x).run Try.prog z = .ok (.enter f x) z)
    (hok : WdOk N s) (hN : N ≤ 40000) (hE : E.is s) (hr : Runs E p s l v G s') (hl : l.length ≤ 3000) (hv : v.length ≤ 1000000) (hH : ∀ log s1, log <+: l → s1.ep.said.length = s.ep.said.length → H ⟨log, 0, false, s1⟩) :
    Calls Try.prog 20 #[.pointer (some ⟨c.wb, 0, none⟩), .int .i64 me, .func (.func f) first cap] w fun e z => ∃ tb, e = .returned (.pointer (some ⟨tb, 0, none⟩)) ∧ Hid (Calls Try.prog 19 #[.pointer (some ⟨tb, 0, none⟩)] z fun e z' => ∃ T' a cp a2 cp2, e = .returned (.tuple #[.slice a2 v.length cp2, .int .i64 (max l.length 1 : Nat), .bool true]) ∧
      Heap w0 z' (wdL c s' ++ (Z ++ [thP tb T', rowP 2 1 (.slice a v.length cp) v.length (intC v), rowP 2 1 (.slice a2 v.length cp2) v.length (intC v)])) ∧ T'.done = true ∧ T'.out = .slice a v.length cp ∧ WdOk (N + max l.length 1) s' ∧ s'.ep.said.length = s.ep.said.length) := by
  refine (Start_h h c.wb me f first cap).mono ?_
  generalize w.heap.size = b
  rintro e z ⟨rfl, H1⟩
  refine ⟨b + 3, rfl, Lib.hid ?_⟩
  have H2 : Heap w0 z ((wdPl c (Z ++ stB c.wb me (.func (.func f) first cap) b) [] (b + 3)).F s (newTh (stV b)) ++ []) := by
    show Heap w0 z ((wdL c s ++ ((Z ++ stB c.wb me (.func (.func f) first cap) b) ++ [thP (b + 3) (newTh (stV b))])) ++ [])
    simp only [List.append_assoc, List.append_nil] at H1 ⊢
    exact H1
  refine (Alone_h (T := newTh (stV b)) (stPl_is c Z me (.func (.func f) first cap) b (b + 3)) (fun M hM => hd M b (b + 3) hM) hent H2 rfl rfl hok hN (by simp [newTh]) (Goes.start hE hr) hl hv (by simpa [newTh] using hH)).mono ?_
  rintro e z' ⟨T', a, cp, a2, cp2, rfl, H3, _, hd', _, _, ho', ok', hs'⟩
  refine ⟨T', a, cp, a2, cp2, rfl, ?_, hd', ho', ok', hs'⟩
  have H4 : Heap w0 z' ((wdL c s' ++ Z) ++ stB c.wb me (.func (.func f) first cap) b ++ [thP (b + 3) T', rowP 2 1 (.slice a v.length cp) v.length (intC v), rowP 2 1 (.slice a2 v.length cp2) v.length (intC v)]) := by
    have : Heap w0 z' ((wdL c s' ++ ((Z ++ stB c.wb me (.func (.func f) first cap) b) ++ [thP (b + 3) T'])) ++ ([] ++ [rowP 2 1 (.slice a v.length cp) v.length (intC v), rowP 2 1 (.slice a2 v.length cp2) v.length (intC v)])) := H3
    simpa [List.append_assoc] using this
  have H6 := H4.mid
  rwa [List.append_assoc] at H6
set_option maxHeartbeats 1000000 in
/-- What a helper answered. -/
theorem yes_h {L : List Piece} {T : Th} {tb : Nat} {a : Option Addr} {cp : Nat} (h : Heap w0 w L) (i j : Nat) (hi : L[i]? = some (thP tb T)) (b : Bool) (hj : L[j]? = some (rowP 2 1 (.slice a 1 cp) 1 (intC [bit b]))) (hd : T.done = true) (ho : T.out = .slice a 1 cp) :
    Calls Try.prog 57 #[.pointer (some ⟨tb, 0, none⟩)] w fun e w' => e = .returned (.bool b) ∧ ∃ a2 cp2, Heap w0 w' (L ++ [rowP 2 1 (.slice a2 1 cp2) 1 (intC [bit b])]) := by
  have C := Lib.hid (Out_some h i hi hd a 1 cp ho [bit b] ((h.row j hj).rdv) (by omega))
  clear h hi hj hd ho
  go_enter Try.func57, Try.ntmps57
  go_wp2_with fail
  refine C.out.mono ?_
  rintro e w2 ⟨a2, c2, rfl, H⟩
  obtain ⟨a1, ea, hc1, hat⟩ := ((H.row L.length (t := 2) (sz := 1) (n := 1) (v := .slice a2 1 c2) (us := [bit b].map (Value.int .i64)) (by simp)).rdv).at (by omega)
  have ea : a2 = some a1 := by simpa using ea
  subst ea
  have y0 := hat 0 (.int .i64 (bit b)) (by simp)
  have HH := Lib.hid H
  clear H C hat
  cases b with
  | true =>
    have y0 : w2.cell? a1 = some (.int .i64 1) := y0
    go_wp2_with fail
    go_ret
    exact ⟨rfl, _, _, HH.out⟩
  | false =>
    have y0 : w2.cell? a1 = some (.int .i64 0) := y0
    go_wp2_with fail
    go_ret
    exact ⟨rfl, _, _, HH.out⟩
end
end Go.Proofs.Ythkohomogknddaa
