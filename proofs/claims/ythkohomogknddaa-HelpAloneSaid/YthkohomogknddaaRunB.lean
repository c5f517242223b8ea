/- Begin, End, Drop, Leave, Make, alone: what they ask, what they come to. No program, no condition. -/
import Derived.Test.YthkohomogknddaaRuns
import Derived.Test.YthkohomogknddaaTsk
namespace Go.Proofs.Ythkohomogknddaa
open Go Go.RowKit
set_option linter.unusedVariables false
set_option linter.unusedSimpArgs false
/-- Nothing is known. -/
def ev0 : Ev := ⟨fun _ => none, fun _ => none⟩
theorem ev0_is (s : Wd) : ev0.is s := ⟨fun r nd h => (by cases h), fun n c h => (by cases h)⟩
section
variable {α : Type}
theorem Runs.ask0 {f : Wd → Int × Wd} {k : Int → Wk α} {s s' : Wd} {l : List Int} {v : α} (ht : Tame f) (h : Runs ev0 (k (f s).1) (f s).2 l v ev0 s') : Runs ev0 (.ask f k) s ((f s).1 :: l) v ev0 s' := .ask ht (Ev.le_refl _) (ev0_is _) h
theorem Runs.ask1 {f : Wd → Int × Wd} {k : Int → Wk α} {s s1 s' : Wd} {l : List Int} {v : α} {n : Int} (ht : Tame f) (e : f s = (n, s1)) (h : Runs ev0 (k n) s1 l v ev0 s') : Runs ev0 (.ask f k) s (n :: l) v ev0 s' := by
  have := Runs.ask0 (s := s) (k := k) ht (l := l) (v := v) (s' := s') (by rw [e]; exact h)
  rw [e] at this
  exact this
end
/-- What the others' announcements are, up to the first that is another epoch. -/
def saidsL (s : Wd) : Nat → Int → Int → List Int
  | 0, _, _ => []
  | m + 1, k, now => if saidEp k s.ep ≠ -1 ∧ saidEp k s.ep ≠ now then [saidEp k s.ep] else saidEp k s.ep :: saidsL s m (k + 1) now
def saidsV (s : Wd) : Nat → Int → Int → Bool
  | 0, _, _ => true
  | m + 1, k, now => if saidEp k s.ep ≠ -1 ∧ saidEp k s.ep ≠ now then false else saidsV s m (k + 1) now
theorem runs_saids (s : Wd) : ∀ (m : Nat) (k now : Int), Runs ev0 (saids m k now) s (saidsL s m k now) (saidsV s m k now) ev0 s
  | 0, k, now => .ret
  | m + 1, k, now => by
    unfold saids saidsL saidsV
    by_cases h : saidEp k s.ep ≠ -1 ∧ saidEp k s.ep ≠ now
    · rw [if_pos h, if_pos h]
      refine Runs.ask1 (tame_said k) (e := rfl) ?_
      rw [if_pos h]
      exact .ret
    · rw [if_neg h, if_neg h]
      refine Runs.ask1 (tame_said k) (e := rfl) ?_
      rw [if_neg h]
      exact runs_saids s m (k + 1) now
/-- Begin: the touches ahead of those that free. -/
def begS (me : Int) (s : Wd) : Wd := (aSay me s.ep.now s).2
def begAll (me : Int) (s : Wd) : Bool := saidsV (begS me s) s.ep.said.length 0 s.ep.now
def begS2 (me : Int) (s : Wd) : Wd := if begAll me s = true then (aSwap s.ep.now (begS me s)).2 else begS me s
def begL (me : Int) (s : Wd) : List Int := s.ep.now :: 0 :: (saidsL (begS me s) s.ep.said.length 0 s.ep.now ++ ((if begAll me s = true then [1] else []) ++ [(begS2 me s).ep.now]))
theorem runs_begin {me : Int} {s s3 : Wd} {l : List Int} {F n : Nat} (hn : s.ep.said.length = n) (h : Runs ev0 (ones F me (begS2 me s).ep.now) (begS2 me s) l () ev0 s3) : Runs ev0 (beginP me n F) s (begL me s ++ l) () ev0 s3 := by
  subst hn
  unfold beginP begL
  refine Runs.ask1 tame_now (e := rfl) (Runs.ask1 (tame_say me s.ep.now) (s1 := begS me s) (e := rfl) ?_)
  change Runs ev0 _ _ ((saidsL (begS me s) s.ep.said.length 0 s.ep.now ++ ((if begAll me s = true then [1] else []) ++ [(begS2 me s).ep.now])) ++ l) _ _ _
  rw [List.append_assoc]
  refine (runs_saids (begS me s) s.ep.said.length 0 s.ep.now).bind ?_
  have hk : saidsV (begS me s) s.ep.said.length 0 s.ep.now = begAll me s := rfl
  rw [hk]
  have hb : Runs ev0 (goOn (begAll me s) s.ep.now) (begS me s) (if begAll me s = true then [1] else []) () ev0 (begS2 me s) := by
    unfold goOn begS2
    cases begAll me s with
    | false => exact .ret
    | true =>
      refine Runs.ask1 (tame_swap s.ep.now) (s1 := (aSwap s.ep.now (begS me s)).2) (e := ?_) .ret
      unfold aSwap begS aSay
      simp [bit, sayEp]
  rw [List.append_assoc]
  refine hb.bind ?_
  exact Runs.ask1 tame_now (e := rfl) h
/-- No node waits: none is freed. -/
theorem runs_ones0 {me now : Int} {s : Wd} (F : Nat) (h : (takeEp me now s.ep).1 = 0) (he : (takeEp me now s.ep).2 = s.ep) : Runs ev0 (ones (F + 1) me now) s [0] () ev0 s := by
  unfold ones
  refine Runs.ask1 (tame_one me now) (s1 := s) (e := ?_) ?_
  · unfold aOne
    rw [h, he]; rfl
  · rw [if_pos rfl]; exact .ret
end Go.Proofs.Ythkohomogknddaa
