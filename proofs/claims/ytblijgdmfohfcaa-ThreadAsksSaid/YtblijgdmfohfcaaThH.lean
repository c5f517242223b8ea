/- A thread over what all share: Do and Step, in terms of work that asks. No condition but on the touches, what they come to. -/
import Derived.Test.YtblijgdmfohfcaaThG
namespace Go.Proofs.Ytblijgdmfohfcaa
open Go Go.RowKit
set_option linter.unusedVariables false
set_option linter.unusedSimpArgs false
/-- How what is shared and a thread lie in memory. -/
structure Pl (σ : Type) where
  F : σ → Th → List Piece
  ti : Nat
  tb : Nat
  get : ∀ s T, (F s T)[ti]? = some (thP tb T)
  put : ∀ s T T', (F s T).set ti (thP tb T') = F s T'
section
variable {σ : Type}
def Th.st (T : Th) (s : σ) : Tst σ := ⟨T.log, T.at', T.spent, s⟩
def Th.of (T : Th) (x : Tst σ) : Th := { T with log := x.log, at' := x.at', spent := x.spent }
structure Fit (ok : σ → Prop) (x : Tst σ) : Prop where
  le : x.at' ≤ x.log.length
  few : x.log.length ≤ 900001
  new : x.spent = false → x.log.length ≤ 900000 ∧ ok x.sh
theorem Fit.ask {ok : σ → Prop} {x x' : Tst σ} {g : σ → Int × σ} {n : Int} (h : Fit ok x) (e : askT g x = (some n, x')) : Fit ok x' := by
  unfold askT at e
  split at e
  · rename_i hlt
    simp only [Prod.mk.injEq, Option.some.injEq] at e
    obtain ⟨_, rfl⟩ := e
    exact ⟨hlt, h.few, h.new⟩
  · split at e
    · simp at e
    · rename_i h1 h2
      simp only [Prod.mk.injEq, Option.some.injEq] at e
      obtain ⟨_, rfl⟩ := e
      have h3 := (h.new (by simpa using h2)).1
      have h4 := h.le
      exact ⟨by simp; omega, by simp; omega, fun hx => by simp at hx⟩
theorem Pl.set (pl : Pl σ) (s : σ) (T T' : Th) (X : List Piece) : (pl.F s T ++ X).set pl.ti (thP pl.tb T') = pl.F s T' ++ X := by
  have hil := (List.getElem?_eq_some_iff.1 (pl.get s T)).1
  rw [List.set_append_left _ _ hil, pl.put]
theorem Pl.lt (pl : Pl σ) (s : σ) (T : Th) (X : List Piece) : pl.ti < (pl.F s T ++ X).length := by
  have hil := (List.getElem?_eq_some_iff.1 (pl.get s T)).1
  rw [List.length_append]; omega
theorem Pl.at' (pl : Pl σ) (s : σ) (T : Th) (X : List Piece) : (pl.F s T ++ X)[pl.ti]? = some (thP pl.tb T) := get_left (pl.get s T)
/-- What Do comes to, by what the thread was told. -/
def DoPost (pl : Pl σ) (w0 : World) (X : List Piece) (T : Th) (r : Option Int × Tst σ) (e : Ending) (w' : World) : Prop := match r with
  | (some n, x') => e = .returned (.int .i64 n) ∧ Heap w0 w' (pl.F x'.sh (T.of x') ++ X)
  | (none, x') => e = .panicked [waitE] ∧ Heap w0 w' (pl.F x'.sh (T.of x') ++ X)
theorem Do_task {w0 w : World} {pl : Pl σ} {X : List Piece} {s : σ} {T : Th} {ok : σ → Prop} (h : Heap w0 w (pl.F s T ++ X)) (hin : T.inn = true) (hf : Fit ok (T.st s)) (f : FuncId) (first cap : Array Value)
    (hent : ∀ (x : Array Value) (z : World), (callFunc f x).run Try.prog z = .ok (.enter f x) z) (g : σ → Int × σ)
    (ht : ∀ T z, ok s → Heap w0 z (pl.F s T ++ X) → Calls Try.prog f (first ++ cap) z fun e w' => e = .returned (.int .i64 (g s).1) ∧ Heap w0 w' (pl.F (g s).2 T ++ X)) :
    Calls Try.prog 20 #[.pointer (some ⟨pl.tb, 0, none⟩), .func (.func f) first cap] w (DoPost pl w0 X T (askT g (T.st s))) := by
  have hle := hf.le
  have hfew := hf.few
  unfold askT
  by_cases hlt : T.at' < T.log.length
  · rw [if_pos (show (T.st s).at' < (T.st s).log.length from hlt)]
    refine (Do_told h pl.ti (pl.at' s T X) hin f first cap hlt (by change T.log.length ≤ _ at hfew; omega)).mono ?_
    rintro e w' ⟨rfl, H⟩
    rw [pl.set] at H
    exact ⟨rfl, H⟩
  · rw [if_neg (show ¬ (T.st s).at' < (T.st s).log.length from hlt)]
    have hat : T.at' = T.log.length := by change T.at' ≤ T.log.length at hle; omega
    by_cases hsp : T.spent = true
    · rw [if_pos (show (T.st s).spent = true from hsp)]
      refine (Do_wait h pl.ti (pl.at' s T X) hin f first cap hat hsp).mono ?_
      rintro e w' ⟨rfl, H⟩
      exact ⟨rfl, H⟩
    · rw [if_neg (show ¬ (T.st s).spent = true from hsp)]
      have hsp' : T.spent = false := by simpa using hsp
      obtain ⟨h1, h2⟩ := hf.new hsp'
      refine (Do_new h pl.ti (pl.at' s T X) hin f first cap hat hsp' (by change T.log.length ≤ _ at h1; omega) hent (g s).1 (pl.F (g s).2 T ++ X) (pl.lt _ _ _) (fun z hz => ?_)).mono ?_
      · rw [pl.set] at hz ⊢
        exact ht _ z h2 hz
      · rintro e w' ⟨rfl, H⟩
        rw [pl.set] at H
        exact ⟨rfl, H⟩
/-- What work comes to, in one Step. -/
def WorkPost (pl : Pl σ) (w0 : World) (X : List Piece) (T : Th) (r : Res (List Int) × Tst σ) (e : Ending) (w' : World) : Prop := match r with
  | (.done v, x') => ∃ a c, e = .returned (.slice a v.length c) ∧ Heap w0 w' (pl.F x'.sh (T.of x') ++ X ++ [rowP 2 1 (.slice a v.length c) v.length (intC v)])
  | (.wait, x') => e = .panicked [waitE] ∧ Heap w0 w' (pl.F x'.sh (T.of x') ++ X)
  | (.stuck, _) => True
/-- What a Step comes to. -/
def StepPost (pl : Pl σ) (w0 : World) (Y : List Piece) (T : Th) (r : Res (List Int) × Tst σ) (e : Ending) (w' : World) : Prop := match r with
  | (.done v, x') => ∃ a c, e = .returned (.bool true) ∧ Heap w0 w' (pl.F x'.sh { T.of x' with inn := false, done := true, out := .slice a v.length c } ++ Y ++ [rowP 2 1 (.slice a v.length c) v.length (intC v)])
  | (.wait, x') => e = .returned (.bool false) ∧ Heap w0 w' (pl.F x'.sh { T.of x' with inn := false } ++ Y)
  | (.stuck, _) => True
theorem Step_task {w0 w : World} {pl : Pl σ} {Y : List Piece} {s : σ} {T : Th} (h : Heap w0 w (pl.F s T ++ Y)) (f : FuncId) (first cap : Array Value) (hwork : T.work = .func (.func f) first cap) (hdone : T.done = false)
    (hent : ∀ (x : Array Value) (z : World), (callFunc f x).run Try.prog z = .ok (.enter f x) z) (p : Prog σ (List Int)) (ht : p.told T.log) (hns : (stepR (p.rest T.log) T.log s).1 ≠ .stuck)
    (hw : ∀ X z, Heap w0 z (pl.F s { T with at' := 0, spent := false, inn := true } ++ X) → Calls Try.prog f (first.push (.pointer (some ⟨pl.tb, 0, none⟩)) ++ cap) z (WorkPost pl w0 X { T with at' := 0, spent := false, inn := true } (p.run ⟨T.log, 0, false, s⟩))) :
    Calls Try.prog 12 #[.pointer (some ⟨pl.tb, 0, none⟩)] w (StepPost pl w0 Y T (stepR (p.rest T.log) T.log s)) := by
  have e := run_step p T.log s ht
  rw [e] at hw
  generalize hr : stepR (p.rest T.log) T.log s = r at *
  obtain ⟨r, x'⟩ := r
  have hn : (pl.F s T ++ Y)[pl.ti]? = some (thP pl.tb T) := pl.at' s T Y
  cases r with
  | stuck => exact absurd rfl hns
  | wait =>
    refine (Step_wait h pl.ti hn f first cap hwork hdone hent (pl.F x'.sh T ++ Y) { T.of x' with inn := true } (pl.lt _ _ _) (fun X z hz => ?_)).mono ?_
    · rw [pl.set, List.append_assoc] at hz
      refine (hw _ z hz).mono ?_
      rintro e w' ⟨rfl, H⟩
      refine ⟨rfl, ?_⟩
      rw [pl.set, List.append_assoc]
      exact H
    · rintro e w' ⟨rfl, H⟩
      rw [pl.set] at H
      exact ⟨rfl, H⟩
  | done v =>
    refine (Step_done h pl.ti hn f first cap hwork hdone hent (pl.F x'.sh T ++ Y) { T.of x' with inn := true } (pl.lt _ _ _) rfl (fun val => match val with | .slice a n c => [rowP 2 1 (.slice a n c) v.length (intC v)] | _ => []) (fun X z hz => ?_)).mono ?_
    · rw [pl.set, List.append_assoc] at hz
      refine (hw _ z hz).mono ?_
      rintro e w' ⟨a, c, rfl, H⟩
      refine ⟨a, v.length, c, rfl, ?_⟩
      rw [pl.set, List.append_assoc, List.append_assoc]
      rw [List.append_assoc, List.append_assoc] at H
      exact H
    · rintro e w' ⟨a, n, c, rfl, H⟩
      rw [pl.set] at H
      have hnn : n = v.length := by
        obtain ⟨_, _, hv, _⟩ := (H.row (t := 2) (sz := 1) (n := v.length) (v := .slice a n c) (us := intC v) ((pl.F x'.sh { T.of x' with inn := false, done := true, out := .slice a n c } ++ Y).length) (by simp)).form
        simp at hv
        exact hv.2.1
      subst hnn
      exact ⟨a, c, rfl, H⟩
end
end Go.Proofs.Ytblijgdmfohfcaa
