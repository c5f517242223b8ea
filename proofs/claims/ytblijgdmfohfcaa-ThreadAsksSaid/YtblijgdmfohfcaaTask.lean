/- Work that asks, touch by touch: what it comes to when it is gone through from its beginning, told again what it was answered so far. No program, no condition. -/
import Derived.Test.YtblijgdmfohfcaaMany
namespace Go.Proofs.Ytblijgdmfohfcaa
open Go Go.RowKit
set_option linter.unusedVariables false
set_option linter.unusedSimpArgs false
/-- Work over what all share. -/
inductive Prog (σ α : Type) where
  | ret (v : α)
  | ask (f : σ → Int × σ) (k : Int → Prog σ α)
  | stuck
/-- How far a thread is in a Step: what it was answered, how much of it was told again, whether its touch is done; what all share. -/
structure Tst (σ : Type) where
  log : List Int
  at' : Nat
  spent : Bool
  sh : σ
inductive Res (α : Type) where
  | done (v : α)
  | wait
  | stuck
section
variable {σ α β : Type}
/-- One ask. -/
def askT (f : σ → Int × σ) (x : Tst σ) : Option Int × Tst σ :=
  if x.at' < x.log.length then (some (x.log.getD x.at' 0), { x with at' := x.at' + 1 })
  else if x.spent = true then (none, x)
  else (some (f x.sh).1, ⟨x.log ++ [(f x.sh).1], x.at' + 1, true, (f x.sh).2⟩)
def Prog.run : Prog σ α → Tst σ → Res α × Tst σ
  | .ret v, x => (.done v, x)
  | .stuck, x => (.stuck, x)
  | .ask f k, x => match askT f x with
    | (some n, x') => (k n).run x'
    | (none, x') => (.wait, x')
def Prog.bind : Prog σ α → (α → Prog σ β) → Prog σ β
  | .ret v, q => q v
  | .stuck, _ => .stuck
  | .ask f k, q => .ask f fun n => (k n).bind q
theorem run_ret (v : α) (x : Tst σ) : (Prog.ret v : Prog σ α).run x = (.done v, x) := rfl
theorem run_some {f : σ → Int × σ} {k : Int → Prog σ α} {x x' : Tst σ} {n : Int} (h : askT f x = (some n, x')) : (Prog.ask f k).run x = (k n).run x' := by
  rw [Prog.run, h]
theorem run_none {f : σ → Int × σ} {k : Int → Prog σ α} {x x' : Tst σ} (h : askT f x = (none, x')) : (Prog.ask f k).run x = (.wait, x') := by
  rw [Prog.run, h]
theorem run_bind (q : α → Prog σ β) : ∀ (p : Prog σ α) (x : Tst σ), (p.bind q).run x = match p.run x with | (.done v, x') => (q v).run x' | (.wait, x') => (.wait, x') | (.stuck, x') => (.stuck, x')
  | .ret v, x => rfl
  | .stuck, x => rfl
  | .ask f k, x => by
    rw [Prog.bind]
    cases h : askT f x with
    | mk r x' => cases r with
      | none => rw [run_none h, run_none h]
      | some n => rw [run_some h, run_some h]; exact run_bind q (k n) x'
/-- What is left of it behind some answers. -/
def Prog.rest : Prog σ α → List Int → Prog σ α
  | p, [] => p
  | .ask _ k, n :: l => (k n).rest l
  | p, _ :: _ => p
/-- It asks at least as often. -/
def Prog.told : Prog σ α → List Int → Prop
  | _, [] => True
  | .ask _ k, n :: l => (k n).told l
  | _, _ :: _ => False
theorem rest_nil (p : Prog σ α) : p.rest [] = p := by cases p <;> rfl
theorem rest_snoc {f : σ → Int × σ} {k : Int → Prog σ α} : ∀ (l : List Int) (p : Prog σ α) (n : Int), p.told l → p.rest l = .ask f k → p.rest (l ++ [n]) = k n ∧ p.told (l ++ [n])
  | [], p, n, _, h => by
    rw [rest_nil] at h
    subst h
    exact ⟨by rw [List.nil_append, Prog.rest, rest_nil], by rw [List.nil_append, Prog.told]; cases k n <;> trivial⟩
  | m :: l, .ask g j, n, ht, h => rest_snoc l (j m) n ht h
  | m :: l, .ret v, n, ht, h => ht.elim
  | m :: l, .stuck, n, ht, h => ht.elim
theorem run_replay : ∀ (k : Nat) (p : Prog σ α) (x : Tst σ), x.log.length - x.at' = k → x.at' ≤ x.log.length → p.told (x.log.drop x.at') → p.run x = (p.rest (x.log.drop x.at')).run { x with at' := x.log.length }
  | 0, p, x, hk, hle, ht => by
    have e : x.at' = x.log.length := by omega
    rw [List.drop_eq_nil_of_le (by omega), rest_nil, ← e]
  | k + 1, p, x, hk, hle, ht => by
    have hlt : x.at' < x.log.length := by omega
    have hd : x.log.drop x.at' = x.log[x.at'] :: x.log.drop (x.at' + 1) := List.drop_eq_getElem_cons hlt
    rw [hd] at ht ⊢
    cases p with
    | ret v => exact ht.elim
    | stuck => exact ht.elim
    | ask f j =>
      have e : askT f x = (some x.log[x.at'], { x with at' := x.at' + 1 }) := by
        unfold askT
        rw [if_pos hlt]
        simp [List.getD, List.getElem?_eq_getElem hlt]
      rw [run_some e]
      exact run_replay k (j x.log[x.at']) { x with at' := x.at' + 1 } (by simp; omega) (by simp; omega) ht
/-- One Step of work of which some was told. -/
def stepR (r : Prog σ α) (log : List Int) (s : σ) : Res α × Tst σ := match r with
  | .ret v => (.done v, ⟨log, log.length, false, s⟩)
  | .stuck => (.stuck, ⟨log, log.length, false, s⟩)
  | .ask f k => match k (f s).1 with
    | .ret v => (.done v, ⟨log ++ [(f s).1], log.length + 1, true, (f s).2⟩)
    | .ask _ _ => (.wait, ⟨log ++ [(f s).1], log.length + 1, true, (f s).2⟩)
    | .stuck => (.stuck, ⟨log ++ [(f s).1], log.length + 1, true, (f s).2⟩)
theorem run_step (p : Prog σ α) (log : List Int) (s : σ) (ht : p.told log) : p.run ⟨log, 0, false, s⟩ = stepR (p.rest log) log s := by
  rw [run_replay _ p ⟨log, 0, false, s⟩ rfl (Nat.zero_le _) (by simpa using ht)]
  simp only [List.drop_zero]
  cases p.rest log with
  | ret v => rfl
  | stuck => rfl
  | ask f k =>
    have e : askT f (⟨log, log.length, false, s⟩ : Tst σ) = (some (f s).1, ⟨log ++ [(f s).1], log.length + 1, true, (f s).2⟩) := by
      unfold askT
      rw [if_neg (by simp), if_neg (by simp)]
    rw [run_some e]
    unfold stepR
    cases hk : k (f s).1 with
    | ret v => simp [Prog.run, hk]
    | stuck => simp [Prog.run, hk]
    | ask g j =>
      simp only [hk]
      exact run_none (x := ⟨log ++ [(f s).1], log.length + 1, true, (f s).2⟩) (by unfold askT; rw [if_neg (by simp), if_pos rfl])
end
end Go.Proofs.Ytblijgdmfohfcaa
