/- A world and a thread at work in it: what lies in memory; a touch; what a task comes to. No condition but the bounds of size. -/
import Derived.Test.YthkohomogknddaaWk
import Derived.Test.YthkohomogknddaaK5
namespace Go.Proofs.Ythkohomogknddaa
open Go Go.RowKit
set_option maxRecDepth 100000
set_option linter.unusedVariables false
set_option linter.unusedSimpArgs false
/-- Where a world lies: its own block, the arena's, the records', the epochs'; its numbers. -/
structure Wc where
  wb : Nat
  ab : Nat
  rb : Nat
  eb : Nat
  a : Int
  b : Int
  entry : Int
abbrev pt (b : Nat) : Value := .pointer (some ⟨b, 0, none⟩)
def Wc.cells (c : Wc) : Array Value := #[pt c.ab, pt c.rb, pt c.eb, .int .i64 c.a, .int .i64 c.b, .int .i64 c.entry]
def wdL (c : Wc) (s : Wd) : List Piece := [blkP c.wb 31 c.cells, areP c.ab s.ar, tabP c.rb s.rt, epoP c.eb s.ep]
/-- A world among what a thread shares. -/
structure WdPl (pl : Pl Wd) (c : Wc) where
  wi : Nat
  g0 : ∀ s T, (pl.F s T)[wi]? = some (blkP c.wb 31 c.cells)
  g1 : ∀ s T, (pl.F s T)[wi + 1]? = some (areP c.ab s.ar)
  g2 : ∀ s T, (pl.F s T)[wi + 2]? = some (tabP c.rb s.rt)
  g3 : ∀ s T, (pl.F s T)[wi + 3]? = some (epoP c.eb s.ep)
  p1 : ∀ s T x, (pl.F s T).set (wi + 1) (areP c.ab x) = pl.F { s with ar := x } T
  p2 : ∀ s T x, (pl.F s T).set (wi + 2) (tabP c.rb x) = pl.F { s with rt := x } T
  p3 : ∀ s T x, (pl.F s T).set (wi + 3) (epoP c.eb x) = pl.F { s with ep := x } T
/-- The world first, whatever else behind it. -/
def wdPl (c : Wc) (K B : List Piece) (tb : Nat) : Pl Wd := { F := fun s T => wdL c s ++ (K ++ thP tb T :: B), ti := 4 + K.length, tb := tb, get := fun s T => by rw [List.getElem?_append_right (by simp [wdL])]; simp [wdL], put := fun s T T' => by rw [List.set_append_right _ _ (by simp [wdL])]; simp [wdL] }
def wdPl_is (c : Wc) (K B : List Piece) (tb : Nat) : WdPl (wdPl c K B tb) c := { wi := 0, g0 := fun s T => rfl, g1 := fun s T => rfl, g2 := fun s T => rfl, g3 := fun s T => rfl, p1 := fun s T x => rfl, p2 := fun s T x => rfl, p3 := fun s T x => rfl }
/-- The bounds of a world. -/
structure WdOk (N : Nat) (s : Wd) : Prop where
  ar : OkN s.ar N
  ep : OkEp s.ep N
  rt : ∀ e ∈ s.rt.es, e.nodes.length ≤ 1000 ∧ e.infos.length ≤ 1000
theorem WdOk.up {N M : Nat} {s : Wd} (h : WdOk N s) (hN : N ≤ M) : WdOk M s := ⟨h.ar.up hN, h.ep.more hN, h.rt⟩
theorem WdOk.setAr {N M : Nat} {s : Wd} (h : WdOk N s) (hN : N ≤ M) {x : Ar} (hx : OkN x M) : WdOk M { s with ar := x } := ⟨hx, h.ep.more hN, h.rt⟩
theorem WdOk.setEp {N M : Nat} {s : Wd} (h : WdOk N s) (hN : N ≤ M) {x : Ep} (hx : OkEp x M) : WdOk M { s with ep := x } := ⟨h.ar.up hN, hx, h.rt⟩
/-- A thread's bounds: it is told again no more than it was told; a new touch may be done only in a world within bounds. -/
structure FitW (N : Nat) (x : Tst Wd) : Prop where
  le : x.at' ≤ x.log.length
  few : x.log.length ≤ 900001
  new : x.spent = false → x.log.length ≤ 900000 ∧ WdOk N x.sh
  ok : WdOk (N + 1) x.sh
/-- A touch that keeps the bounds. -/
def Good (N : Nat) (f : Wd → Int × Wd) : Prop := ∀ s, WdOk N s → WdOk (N + 1) (f s).2
theorem FitW.ask0 {N : Nat} {x x' : Tst Wd} {g : Wd → Int × Wd} {n : Int} (h : FitW N x) (hg : x.spent = false → Good N g) (e : askT g x = (some n, x')) : FitW N x' := by
  unfold askT at e
  split at e
  · rename_i hlt
    simp only [Prod.mk.injEq, Option.some.injEq] at e
    obtain ⟨_, rfl⟩ := e
    exact ⟨hlt, h.few, h.new, h.ok⟩
  · split at e
    · simp at e
    · rename_i h1 h2
      simp only [Prod.mk.injEq, Option.some.injEq] at e
      obtain ⟨_, rfl⟩ := e
      have h3 := h.new (by simpa using h2)
      have h4 := h.le
      exact ⟨by simp; omega, by simp; have := h3.1; omega, fun hx => by simp at hx, hg (by simpa using h2) _ h3.2⟩
theorem FitW.ask {N : Nat} {x x' : Tst Wd} {g : Wd → Int × Wd} {n : Int} (h : FitW N x) (hg : Good N g) (e : askT g x = (some n, x')) : FitW N x' := h.ask0 (fun _ => hg) e
/-- An answer stands among what a thread was told, and what stood there still does. -/
theorem askT_mem {σ : Type} {g : σ → Int × σ} {x x' : Tst σ} {n : Int} (e : askT g x = (some n, x')) : n ∈ x'.log ∧ x.log <+: x'.log ∧ (x'.spent = false → x.spent = false ∧ x'.log = x.log ∧ x'.sh = x.sh) := by
  unfold askT at e
  split at e
  · rename_i hlt
    simp only [Prod.mk.injEq, Option.some.injEq] at e
    obtain ⟨rfl, rfl⟩ := e
    exact ⟨by simp [List.getD, List.getElem?_eq_getElem hlt], List.prefix_refl _, fun h => ⟨h, rfl, rfl⟩⟩
  · split at e
    · simp at e
    · simp only [Prod.mk.injEq, Option.some.injEq] at e
      obtain ⟨rfl, rfl⟩ := e
      exact ⟨by simp, List.prefix_append _ _, fun h => by simp at h⟩
/-- How many touches are left in this Step. -/
def left {σ : Type} (x : Tst σ) : Nat := x.log.length - x.at' + (if x.spent = true then 0 else 1)
theorem askT_left {σ : Type} {g : σ → Int × σ} {x x' : Tst σ} {a : Int} (e : askT g x = (some a, x')) (hle : x.at' ≤ x.log.length) : left x' + 1 = left x := by
  unfold left
  unfold askT at e
  split at e
  · rename_i hlt
    simp only [Prod.mk.injEq, Option.some.injEq] at e
    obtain ⟨_, rfl⟩ := e
    simp only
    split <;> omega
  · split at e
    · simp at e
    · rename_i h1 h2
      simp only [Prod.mk.injEq, Option.some.injEq] at e
      obtain ⟨_, rfl⟩ := e
      simp [h2] <;> omega
section
variable {α : Type} {pl : Pl Wd} {w0 w : World} {X : List Piece} {T : Th} {x : Tst Wd} {N : Nat}
/-- What a touch comes to. -/
def DoP (pl : Pl Wd) (w0 : World) (X : List Piece) (T : Th) (r : Option Int × Tst Wd) (e : Ending) (w' : World) : Prop := match r with
  | (some n, x') => e = .returned (.int .i64 n) ∧ Heap w0 w' (pl.F x'.sh (T.of x') ++ X)
  | (none, x') => e = .panicked [waitE] ∧ Heap w0 w' (pl.F x'.sh (T.of x') ++ X)
def AskP (pl : Pl Wd) (w0 : World) (X : List Piece) (T : Th) (r : Option Int × Tst Wd) (e : Ending) (w' : World) : Prop := match r with
  | (some n, x') => e = .returned (.bool (n == 1)) ∧ Heap w0 w' (pl.F x'.sh (T.of x') ++ X)
  | (none, x') => e = .panicked [waitE] ∧ Heap w0 w' (pl.F x'.sh (T.of x') ++ X)
/-- What a task comes to: a value (and pieces of its own), or it waits. -/
def TaskP (pl : Pl Wd) (w0 : World) (X : List Piece) (T : Th) (N : Nat) (R : α → Value → List Piece → Prop) (r : Res α × Tst Wd) (e : Ending) (w' : World) : Prop := match r with
  | (.done v, x') => ∃ val Y, e = .returned val ∧ R v val Y ∧ FitW N x' ∧ Heap w0 w' (pl.F x'.sh (T.of x') ++ X ++ Y)
  | (.wait, x') => e = .panicked [waitE] ∧ Heap w0 w' (pl.F x'.sh (T.of x') ++ X)
  | (.stuck, _) => True
theorem Do_wd (h : Heap w0 w (pl.F x.sh (T.of x) ++ X)) (hin : T.inn = true) (hf : FitW N x) (f : FuncId) (first cap : Array Value)
    (hent : ∀ (x : Array Value) (z : World), (callFunc f x).run Try.prog z = .ok (.enter f x) z) (g : Wd → Int × Wd)
    (ht : ∀ T z, WdOk N x.sh → x.spent = false → Heap w0 z (pl.F x.sh T ++ X) → Calls Try.prog f (first ++ cap) z fun e w' => e = .returned (.int .i64 (g x.sh).1) ∧ Heap w0 w' (pl.F (g x.sh).2 T ++ X)) :
    Calls Try.prog 69 #[pt pl.tb, .func (.func f) first cap] w (DoP pl w0 X T (askT g x)) := by
  have C := Do_task (ok := fun s => WdOk N s ∧ x.spent = false) (T := T.of x) h hin ⟨hf.le, hf.few, fun e => ⟨(hf.new e).1, (hf.new e).2, e⟩⟩ f first cap hent g (fun T z ok hz => ht T z ok.1 ok.2 hz)
  change Calls Try.prog 69 #[pt pl.tb, .func (.func f) first cap] w (DoPost pl w0 X (T.of x) (askT g x)) at C
  refine C.mono fun e w' hp => ?_
  generalize askT g x = r at *
  obtain ⟨r, x'⟩ := r
  cases r <;> exact hp
theorem Ask_wd (h : Heap w0 w (pl.F x.sh (T.of x) ++ X)) (hin : T.inn = true) (hf : FitW N x) (f : FuncId) (first cap : Array Value)
    (hent : ∀ (x : Array Value) (z : World), (callFunc f x).run Try.prog z = .ok (.enter f x) z) (b : Bool) (s' : Wd) (g : Wd → Int × Wd) (hg : g x.sh = (if b = true then 1 else 0, s'))
    (ht : ∀ (Y : List Piece) T z, WdOk N x.sh → x.spent = false → Heap w0 z (pl.F x.sh T ++ (X ++ Y)) → Calls Try.prog f (first ++ cap) z fun e w' => e = .returned (.bool b) ∧ Heap w0 w' (pl.F s' T ++ (X ++ Y))) :
    Calls Try.prog 72 #[pt pl.tb, .func (.func f) first cap] w (AskP pl w0 X T (askT g x)) := by
  have C := Ask_task (ok := fun s => WdOk N s ∧ x.spent = false) (T := T.of x) h hin ⟨hf.le, hf.few, fun e => ⟨(hf.new e).1, (hf.new e).2, e⟩⟩ f first cap hent b g hg (fun Y T z ok hz => ht Y T z ok.1 ok.2 hz)
  change Calls Try.prog 72 #[pt pl.tb, .func (.func f) first cap] w (AskPost pl w0 X (T.of x) (askT g x)) at C
  refine C.mono fun e w' hp => ?_
  generalize askT g x = r at *
  obtain ⟨r, x'⟩ := r
  cases r <;> exact hp
/-- One Step, by what its work comes to. -/
theorem Step_wd {s : Wd} (h : Heap w0 w (pl.F s T ++ X)) (f : FuncId) (first cap : Array Value) (hwork : T.work = .func (.func f) first cap) (hdone : T.done = false)
    (hent : ∀ (x : Array Value) (z : World), (callFunc f x).run Try.prog z = .ok (.enter f x) z) (r : Res (List Int) × Tst Wd) (hns : r.1 ≠ .stuck)
    (hw : ∀ X z, Heap w0 z (pl.F s { T with at' := 0, spent := false, inn := true } ++ X) → Calls Try.prog f (first.push (pt pl.tb) ++ cap) z (WorkPost pl w0 X { T with at' := 0, spent := false, inn := true } r)) :
    Calls Try.prog 29 #[pt pl.tb] w (StepPost pl w0 X T r) := by
  obtain ⟨r, x'⟩ := r
  have hn : (pl.F s T ++ X)[pl.ti]? = some (thP pl.tb T) := pl.at' s T X
  cases r with
  | stuck => exact absurd rfl hns
  | wait =>
    refine (Step_wait h pl.ti hn f first cap hwork hdone hent (pl.F x'.sh T ++ X) { T.of x' with inn := true } (pl.lt _ _ _) (fun X z hz => ?_)).mono ?_
    · rw [pl.set, List.append_assoc] at hz
      refine (hw _ z hz).mono ?_
      rintro e w' ⟨rfl, H⟩
      refine ⟨rfl, ?_⟩
      rw [pl.set, List.append_assoc]
      exact H
    · rintro e w' ⟨rfl, H⟩
      rw [pl.set] at H
      exact ⟨rfl, H⟩
  | done v =>
    refine (Step_done h pl.ti hn f first cap hwork hdone hent (pl.F x'.sh T ++ X) { T.of x' with inn := true } (pl.lt _ _ _) rfl (fun val => match val with | .slice a n c => [rowP 2 1 (.slice a n c) v.length (intC v)] | _ => []) (fun X z hz => ?_)).mono ?_
    · rw [pl.set, List.append_assoc] at hz
      refine (hw _ z hz).mono ?_
      rintro e w' ⟨a, c, rfl, H⟩
      refine ⟨a, v.length, c, rfl, ?_⟩
      rw [pl.set, List.append_assoc, List.append_assoc]
      rw [List.append_assoc, List.append_assoc] at H
      exact H
    · rintro e w' ⟨a, n, c, rfl, H⟩
      rw [pl.set] at H
      have hnn : n = v.length := by
        obtain ⟨_, _, hv, _⟩ := (H.row (t := 2) (sz := 1) (n := v.length) (v := .slice a n c) (us := intC v) ((pl.F x'.sh { T.of x' with inn := false, done := true, out := .slice a n c } ++ X).length) (by simp)).form
        simp at hv
        exact hv.2.1
      subst hnn
      exact ⟨a, c, rfl, H⟩
end
/-- The touches. -/
def bit (b : Bool) : Int := if b = true then 1 else 0
def aNow (s : Wd) : Int × Wd := (s.ep.now, s)
def aSay (t n : Int) (s : Wd) : Int × Wd := (0, { s with ep := sayEp t n s.ep })
def aSaid (k : Int) (s : Wd) : Int × Wd := (saidEp k s.ep, s)
def aSwap (n : Int) (s : Wd) : Int × Wd := (bit (decide (s.ep.now = n)), { s with ep := swapEp n s.ep })
def aOne (t now : Int) (s : Wd) : Int × Wd := ((takeEp t now s.ep).1, if (takeEp t now s.ep).1 = 0 then { s with ep := (takeEp t now s.ep).2 } else { s with ep := (takeEp t now s.ep).2, ar := (freeAr (takeEp t now s.ep).1 s.ar).2 })
def aLeave (t r now : Int) (s : Wd) : Int × Wd := (0, { s with ep := leaveEp t r now s.ep })
def aAlloc (nd : Nd) (s : Wd) : Int × Wd := ((allocAr nd s.ar).1.1, { s with ar := (allocAr nd s.ar).2 })
def aFree (r : Int) (s : Wd) : Int × Wd := (bit (freeAr r s.ar).1, { s with ar := (freeAr r s.ar).2 })
def aInfo (r : Int) (s : Wd) : Int × Wd := ((infoAr r s.ar).1, { s with ar := (infoAr r s.ar).2 })
def aMark (r : Int) (s : Wd) : Int × Wd := (bit (markAr r s.ar).1, { s with ar := (markAr r s.ar).2 })
def aSetMark (r : Int) (s : Wd) : Int × Wd := (0, { s with ar := setMarkAr r s.ar })
def aSwapInfo (r old now : Int) (s : Wd) : Int × Wd := (bit (swapInfoAr r old now s.ar).1, { s with ar := (swapInfoAr r old now s.ar).2 })
def aWay (r i : Int) (s : Wd) : Int × Wd := ((wayAr r i s.ar).1, { s with ar := (wayAr r i s.ar).2 })
def aSwapWay (r i old now : Int) (s : Wd) : Int × Wd := (bit (swapWayAr r i old now s.ar).1, { s with ar := (swapWayAr r i old now s.ar).2 })
def aState (n : Int) (s : Wd) : Int × Wd := (stateRt n s.rt, s)
def aAll (n : Int) (s : Wd) : Int × Wd := (bit (allRt n s.rt), s)
def aSet (n v : Int) (s : Wd) : Int × Wd := (0, { s with rt := setRt n v s.rt })
def aSetAll (n : Int) (s : Wd) : Int × Wd := (0, { s with rt := setAllRt n s.rt })
def aMake (c : Rc) (s : Wd) : Int × Wd := ((makeRt c s.rt).1.1, { s with rt := (makeRt c s.rt).2 })
section
variable {N : Nat}
theorem good_same {f : Wd → Int × Wd} (h : ∀ s, (f s).2 = s) : Good N f := fun s ok => by rw [h]; exact ok.up (Nat.le_succ N)
theorem good_now : Good N aNow := good_same (fun _ => rfl)
theorem good_said (k : Int) : Good N (aSaid k) := good_same (fun _ => rfl)
theorem good_state (n : Int) : Good N (aState n) := good_same (fun _ => rfl)
theorem good_all (n : Int) : Good N (aAll n) := good_same (fun _ => rfl)
theorem good_say (t n : Int) : Good N (aSay t n) := fun s ok => ok.setEp (Nat.le_succ N) ((ok.ep.say t n).1.more (Nat.le_succ N))
theorem good_swap (n : Int) : Good N (aSwap n) := fun s ok => ok.setEp (Nat.le_succ N) (ok.ep.swap n)
theorem good_one (t n : Int) : Good N (aOne t n) := fun s ok => by
  have h1 := ((ok.ep.take t n).1).more (Nat.le_succ N)
  unfold aOne
  dsimp only
  split
  · exact ok.setEp (Nat.le_succ N) h1
  · exact ⟨ok.ar.freed _, h1, ok.rt⟩
theorem good_leave (t r n : Int) (hn : -9223372036854775808 ≤ n ∧ n ≤ 9223372036854775807) : Good N (aLeave t r n) := fun s ok => ok.setEp (Nat.le_succ N) (ok.ep.leave t r n hn).1
theorem good_alloc (nd : Nd) (h : nd.few) : Good N (aAlloc nd) := fun s ok => ok.setAr (Nat.le_succ N) (ok.ar.alloc nd h)
theorem good_free (r : Int) : Good N (aFree r) := fun s ok => ok.setAr (Nat.le_succ N) (ok.ar.freed r)
theorem OkN.putAt {ar : Ar} (h : OkN ar N) {r : Int} {p : Nat} (hp : arAt ar r = some p) (s : Sl) (h1 : s.count = (ar.at p).count) (h2 : s.nd = (ar.at p).nd) : OkN (ar.put p s) N := by
  obtain ⟨x, hx, _⟩ := arAt_some hp
  have := h.at (List.getElem?_eq_some_iff.1 hx).1
  exact h.put p s ⟨by rw [h1]; exact this.1, by rw [h2]; exact this.2⟩
theorem good_info (r : Int) : Good N (aInfo r) := fun s ok => ok.setAr (Nat.le_succ N) (by
  unfold infoAr
  split
  · exact ok.ar.up (Nat.le_succ N)
  · exact ok.ar.fault)
theorem good_mark (r : Int) : Good N (aMark r) := fun s ok => ok.setAr (Nat.le_succ N) (by
  unfold markAr
  split
  · exact ok.ar.up (Nat.le_succ N)
  · exact ok.ar.fault)
theorem good_way (r i : Int) : Good N (aWay r i) := fun s ok => ok.setAr (Nat.le_succ N) (by
  unfold wayAr
  split
  · exact ok.ar.up (Nat.le_succ N)
  · exact ok.ar.fault)
theorem good_setMark (r : Int) : Good N (aSetMark r) := fun s ok => ok.setAr (Nat.le_succ N) (by
  unfold setMarkAr
  split
  · rename_i p hp
    exact (ok.ar.putAt hp { s.ar.at p with mark := true } rfl rfl).up (Nat.le_succ N)
  · exact ok.ar.fault)
theorem good_swapInfo (r old now : Int) : Good N (aSwapInfo r old now) := fun s ok => ok.setAr (Nat.le_succ N) (by
  unfold swapInfoAr
  split
  · rename_i p hp
    split
    · exact (ok.ar.putAt hp { s.ar.at p with info := now } rfl rfl).up (Nat.le_succ N)
    · exact ok.ar.up (Nat.le_succ N)
  · exact ok.ar.fault)
theorem good_swapWay (r i old now : Int) : Good N (aSwapWay r i old now) := fun s ok => ok.setAr (Nat.le_succ N) (by
  unfold swapWayAr
  split
  · rename_i p hp
    split
    · exact (ok.ar.putAt hp { s.ar.at p with ways := (s.ar.at p).ways.set i.toNat now } rfl rfl).up (Nat.le_succ N)
    · exact ok.ar.up (Nat.le_succ N)
  · exact ok.ar.fault)
theorem putOf_mem {es : List Ent} {n : Int} {f : Ent → Ent} {e : Ent} (h : e ∈ putOf es n f) : e ∈ es ∨ ∃ x ∈ es, e = f x := by
  unfold putOf at h
  cases he : entOf es n with
  | none => rw [he] at h; exact .inl h
  | some x =>
    rw [he] at h
    obtain ⟨i, _, hi⟩ := entOf_some he
    rcases List.mem_or_eq_of_mem_set h with h | rfl
    · exact .inl h
    · exact .inr ⟨x, List.mem_of_getElem? hi, rfl⟩
theorem good_set (n v : Int) : Good N (aSet n v) := fun s ok => ⟨ok.ar.up (Nat.le_succ N), ok.ep.more (Nat.le_succ N), fun e he => by
  rcases putOf_mem he with h | ⟨x, h, rfl⟩
  · exact ok.rt e h
  · exact ok.rt x h⟩
theorem good_setAll (n : Int) : Good N (aSetAll n) := fun s ok => ⟨ok.ar.up (Nat.le_succ N), ok.ep.more (Nat.le_succ N), fun e he => by
  rcases putOf_mem he with h | ⟨x, h, rfl⟩
  · exact ok.rt e h
  · exact ok.rt x h⟩
theorem good_make (c : Rc) (h : c.nodes.length ≤ 1000 ∧ c.infos.length ≤ 1000) : Good N (aMake c) := fun s ok => ⟨ok.ar.up (Nat.le_succ N), ok.ep.more (Nat.le_succ N), fun e he => by
  change e ∈ (makeRt c s.rt).2.es at he
  unfold makeRt at he
  split at he
  · rcases List.mem_append.1 he with h1 | h1
    · exact ok.rt e h1
    · simp at h1; subst h1; exact h
  · exact ok.rt e he⟩
end
end Go.Proofs.Ythkohomogknddaa
