/- An operation of touches beside a runner: each Step is what Next is; Make. No condition but the bounds of size. -/
import Derived.Test.YtblijgdmfohfcaaThK
namespace Go.Proofs.Ytblijgdmfohfcaa
open Go Go.RowKit
set_option linter.unusedVariables false
set_option linter.unusedSimpArgs false
/-- What the runner was told is what the operation was told; what is left is the same. -/
structure RunI (ps : List Tc) (R : Rn) : Prop where
  told : (prg false ps []).told R.told
  rest : (prg false ps []).rest R.told = prg false (ps.drop R.at') R.told
theorem RunI.start (ps : List Tc) : RunI ps ⟨0, []⟩ := ⟨by cases ps <;> trivial, by rw [rest_nil]; rfl⟩
theorem RunI.next {ps : List Tc} {R : Rn} (h : RunI ps R) (s : Ce) : RunI ps (rnNext ps R s).2.1 := by
  unfold rnNext
  cases hx : ps[R.at']? with
  | none => exact h
  | some x =>
    have hlt := (List.getElem?_eq_some_iff.1 hx).1
    have hd : ps.drop R.at' = x :: ps.drop (R.at' + 1) := by
      rw [List.drop_eq_getElem_cons hlt]
      congr 1
      exact (List.getElem?_eq_some_iff.1 hx).2
    have hr := h.rest
    rw [hd, prg_ask] at hr
    obtain ⟨h1, h2⟩ := rest_snoc R.told _ s.n h.told hr
    refine ⟨h2, ?_⟩
    dsimp only
    rw [h1]
    by_cases he : s.n.tmod 2 = 0
    · simp [he]
    · simp [he, prg_skip]
/-- One Step, as Next has it. -/
theorem RunI.step {ps : List Tc} {R : Rn} (h : RunI ps R) (s : Ce) : ∃ x', stepR ((prg false ps []).rest R.told) R.told s = ((if (rnNext ps R s).1 = true then .done (rnNext ps R s).2.1.told else .wait), x') ∧ x'.log = (rnNext ps R s).2.1.told ∧ x'.sh = (rnNext ps R s).2.2 := by
  rw [h.rest]
  unfold rnNext
  cases hx : ps[R.at']? with
  | none =>
    have hd : ps.drop R.at' = [] := List.drop_eq_nil_of_le (by have := List.getElem?_eq_none_iff.1 hx; exact this)
    rw [hd]
    exact ⟨⟨R.told, R.told.length, false, s⟩, by simp [prg, stepR], rfl, rfl⟩
  | some x =>
    have hlt := (List.getElem?_eq_some_iff.1 hx).1
    have hd : ps.drop R.at' = x :: ps.drop (R.at' + 1) := by
      rw [List.drop_eq_getElem_cons hlt]
      congr 1
      exact (List.getElem?_eq_some_iff.1 hx).2
    rw [hd, prg_ask]
    have key : ∀ (b : Bool) (k : Nat) (out : List Int), prg b (ps.drop (R.at' + 1)) out = prg false (ps.drop (R.at' + (if b = true then 2 else 1))) out := fun b k out => by
      cases b
      · rfl
      · rw [prg_skip, List.drop_drop]; simp
    have k2 := key (decide (s.n.tmod 2 ≠ 0)) 0 (R.told ++ [s.n])
    unfold stepR
    dsimp only [ceDone]
    rw [k2]
    have e2 : (if decide (s.n.tmod 2 ≠ 0) = true then 2 else 1) = (if s.n.tmod 2 = 0 then 1 else 2) := by
      by_cases he : s.n.tmod 2 = 0 <;> simp [he]
    rw [e2]
    generalize (if s.n.tmod 2 = 0 then 1 else 2) = j
    cases hdd : ps.drop (R.at' + j) with
    | nil =>
      have hle : ps.length ≤ R.at' + j := List.drop_eq_nil_iff.1 hdd
      exact ⟨⟨R.told ++ [s.n], R.told.length + 1, true, (ceDone x s).2⟩, by simp [prg, hle, ceDone], rfl, rfl⟩
    | cons y r =>
      have hle : ¬ ps.length ≤ R.at' + j := fun hle => by rw [List.drop_eq_nil_of_le hle] at hdd; cases hdd
      exact ⟨⟨R.told ++ [s.n], R.told.length + 1, true, (ceDone x s).2⟩, by simp [prg, hle, ceDone], rfl, rfl⟩
def mkV (A B : Nat) : Value := .func (.func 33) #[] #[.pointer (some ⟨A, 0, none⟩), .pointer (some ⟨B, 0, none⟩)]
theorem mk_enters (x : Array Value) (z : World) : (callFunc 33 x).run Try.prog z = .ok (.enter 33 x) z := rfl
section
variable {w0 w : World} {l : List Piece}
theorem Make_h (h : Heap w0 w l) (cb : Nat) (pa : Option Addr) (pn pc : Nat) : Calls Try.prog 11 #[.pointer (some ⟨cb, 0, none⟩), .slice pa pn pc] w fun e w' => ∃ tb A B, e = .returned (.pointer (some ⟨tb, 0, none⟩)) ∧
    Heap w0 w' (l ++ [blkP B 25 #[.pointer (some ⟨cb, 0, none⟩)], blkP A 22 #[.slice pa pn pc], thP tb (newTh (mkV A B))]) := by
  have hmf : ∀ (fn : Fn) (first cap : Array Value) (z : World), (Instr.makeFunc fn first cap).run Try.prog z = .ok (.func fn first cap) z := fun _ _ _ _ => rfl
  have H1 := (h.alloc 25 #[.pointer (some ⟨cb, 0, none⟩)]).alloc 22 #[.slice pa pn pc]
  have hs : (w.alloc (.cells #[.pointer (some ⟨cb, 0, none⟩)] 25)).heap.size = w.heap.size + 1 := by simp
  rw [hs] at H1
  have HH := Lib.hid H1
  clear H1 hs h
  go_enter Try.func11, Try.ntmps11
  go_wp2_with fail
  refine (ThNew_h HH.out 33 #[] #[.pointer (some ⟨w.heap.size + 1, 0, none⟩), .pointer (some ⟨w.heap.size, 0, none⟩)]).mono ?_
  rintro e w2 ⟨rfl, H2⟩
  go_wp2_with fail
  go_ret
  refine ⟨_, w.heap.size + 1, w.heap.size, rfl, ?_⟩
  simpa [mkV] using H2
theorem Step_mk {pl : Pl Ce} {cb A B : Nat} {pv : Value} {s : Ce} {T : Th} {R : Rn} {ps : List Tc} (mk : MkPl pl cb A B pv) (h : Heap w0 w (pl.F s T)) (hwork : T.work = mkV A B) (hdone : T.done = false) (hlog : T.log = R.told) (hI : RunI ps R)
    (hps : ∀ x ∈ ps, x.ok) (RR : RdV w0 pv ps.length 2 (tcC ps)) (hlen : ps.length ≤ 10000) (hok : s.log.length ≤ 900000) (hfew : R.told.length ≤ 900000) :
    Calls Try.prog 12 #[.pointer (some ⟨pl.tb, 0, none⟩)] w fun e z => ∃ T' Y, e = .returned (.bool (rnNext ps R s).1) ∧ Heap w0 z (pl.F (rnNext ps R s).2.2 T' ++ Y) ∧ T'.work = mkV A B ∧ T'.log = (rnNext ps R s).2.1.told ∧ T'.done = (rnNext ps R s).1 ∧
      ((rnNext ps R s).1 = false → Y = []) ∧ ((rnNext ps R s).1 = true → ∃ a c, T'.out = .slice a (rnNext ps R s).2.1.told.length c ∧ Y = [rowP 2 1 (.slice a (rnNext ps R s).2.1.told.length c) (rnNext ps R s).2.1.told.length (intC (rnNext ps R s).2.1.told)]) := by
  obtain ⟨x', hx, hxl, hxs⟩ := hI.step s
  have C := Step_task (Y := []) (s := s) (T := T) (by rw [List.append_nil]; exact h) 33 #[] #[.pointer (some ⟨A, 0, none⟩), .pointer (some ⟨B, 0, none⟩)] hwork hdone mk_enters (prg false ps []) (by rw [hlog]; exact hI.told)
    (by rw [hlog, hx]; dsimp only; split <;> (intro x; cases x))
    (fun X z hz => by
      have := work_calls mk hz rfl ⟨Nat.zero_le _, by simp [Th.st, hlog]; omega, fun _ => ⟨by simp [Th.st, hlog]; omega, by unfold ceOk; exact hok⟩⟩ hps RR hlen
      exact this)
  rw [hlog, hx] at C
  refine C.mono fun e z hp => ?_
  by_cases hb : (rnNext ps R s).1 = true
  · rw [if_pos hb] at hp
    obtain ⟨a, c, rfl, H⟩ := hp
    refine ⟨{ T.of x' with inn := false, done := true, out := .slice a (rnNext ps R s).2.1.told.length c }, [rowP 2 1 (.slice a (rnNext ps R s).2.1.told.length c) (rnNext ps R s).2.1.told.length (intC (rnNext ps R s).2.1.told)], by rw [hb], by rw [← hxs]; simpa using H, hwork, hxl, by rw [hb], fun x => absurd (hb.symm.trans x) (by decide), fun _ => ⟨a, c, rfl, rfl⟩⟩
  · rw [if_neg hb] at hp
    obtain ⟨rfl, H⟩ := hp
    have hb' : (rnNext ps R s).1 = false := by simpa using hb
    refine ⟨{ T.of x' with inn := false }, [], by rw [hb'], by rw [← hxs]; exact H, hwork, hxl, by rw [hb']; exact hdone, fun _ => rfl, fun x => absurd x hb⟩
end
end Go.Proofs.Ytblijgdmfohfcaa
