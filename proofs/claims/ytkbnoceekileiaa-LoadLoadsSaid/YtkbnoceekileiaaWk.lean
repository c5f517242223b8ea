/- Work over a world, touch by touch, that also looks at what stays as it is; what it comes to when it is gone through again from its beginning. No program, no condition. -/
import Derived.Test.YtkbnoceekileiaaK1
import Derived.Test.YtkbnoceekileiaaK2
import Derived.Test.YtkbnoceekileiaaK3
import Derived.Test.YtkbnoceekileiaaK4
namespace Go.Proofs.Ytkbnoceekileiaa
open Go Go.RowKit
set_option maxRecDepth 100000
set_option linter.unusedVariables false
set_option linter.unusedSimpArgs false
/-- What all threads share: the arena, the records, the epochs. -/
structure Wd where
  ar : Ar
  rt : Rt
  ep : Ep
/-- Work: it ends; it asks (a touch); it looks at a node, at a record, as they were made; it is stuck. -/
inductive Wk (α : Type) where
  | ret (v : α)
  | ask (f : Wd → Int × Wd) (k : Int → Wk α)
  | look (r : Int) (k : Nd → Wk α)
  | recd (n : Int) (k : Rc → Wk α)
  | stuck
/-- A node that is there. -/
def lookWd (s : Wd) (r : Int) : Option Nd := match arAt s.ar r with | some p => some (s.ar.at p).nd | none => none
section
variable {α β : Type}
def Wk.run : Wk α → Tst Wd → Res α × Tst Wd
  | .ret v, x => (.done v, x)
  | .stuck, x => (.stuck, x)
  | .look r k, x => match lookWd x.sh r with
    | some nd => (k nd).run x
    | none => (.stuck, x)
  | .recd n k, x => (k (lookRt n x.sh.rt)).run x
  | .ask f k, x => match askT f x with
    | (some n, x') => (k n).run x'
    | (none, x') => (.wait, x')
def Wk.bind : Wk α → (α → Wk β) → Wk β
  | .ret v, q => q v
  | .stuck, _ => .stuck
  | .look r k, q => .look r fun nd => (k nd).bind q
  | .recd n k, q => .recd n fun c => (k c).bind q
  | .ask f k, q => .ask f fun n => (k n).bind q
theorem Wk.run_some {f : Wd → Int × Wd} {k : Int → Wk α} {x x' : Tst Wd} {n : Int} (h : askT f x = (some n, x')) : (Wk.ask f k).run x = (k n).run x' := by
  rw [Wk.run, h]
theorem Wk.run_none {f : Wd → Int × Wd} {k : Int → Wk α} {x x' : Tst Wd} (h : askT f x = (none, x')) : (Wk.ask f k).run x = (.wait, x') := by
  rw [Wk.run, h]
theorem Wk.run_look {r : Int} {k : Nd → Wk α} {x : Tst Wd} {nd : Nd} (h : lookWd x.sh r = some nd) : (Wk.look r k).run x = (k nd).run x := by
  rw [Wk.run, h]
theorem Wk.run_bind (q : α → Wk β) : ∀ (p : Wk α) (x : Tst Wd), (p.bind q).run x = match p.run x with | (.done v, x') => (q v).run x' | (.wait, x') => (.wait, x') | (.stuck, x') => (.stuck, x')
  | .ret v, x => rfl
  | .stuck, x => rfl
  | .look r k, x => by
    rw [Wk.bind, Wk.run, Wk.run]
    cases h : lookWd x.sh r with
    | none => rfl
    | some nd => exact Wk.run_bind q (k nd) x
  | .recd n k, x => by
    rw [Wk.bind, Wk.run, Wk.run]
    exact Wk.run_bind q _ x
  | .ask f k, x => by
    rw [Wk.bind]
    cases h : askT f x with
    | mk r x' => cases r with
      | none => rw [Wk.run_none h, Wk.run_none h]
      | some n => rw [Wk.run_some h, Wk.run_some h]; exact Wk.run_bind q (k n) x'
theorem Wk.bind_done {q : α → Wk β} {p : Wk α} {x x' : Tst Wd} {v : α} (h : p.run x = (.done v, x')) : (p.bind q).run x = (q v).run x' := by
  rw [Wk.run_bind, h]
theorem Wk.bind_wait {q : α → Wk β} {p : Wk α} {x x' : Tst Wd} (h : p.run x = (.wait, x')) : (p.bind q).run x = (.wait, x') := by
  rw [Wk.run_bind, h]
theorem Wk.bind_ns {q : α → Wk β} {p : Wk α} {x : Tst Wd} (h : ((p.bind q).run x).1 ≠ .stuck) : (p.run x).1 ≠ .stuck := by
  intro e
  apply h
  rw [Wk.run_bind]
  rcases hp : p.run x with ⟨r, x'⟩
  rw [hp] at e
  simp only at e
  subst e
  rfl
/-- What is known of nodes and records. -/
structure Ev where
  node : Int → Option Nd
  rcd : Int → Option Rc
/-- It is so in a world. -/
structure Ev.is (E : Ev) (s : Wd) : Prop where
  node : ∀ r nd, E.node r = some nd → lookWd s r = some nd
  rcd : ∀ n c, E.rcd n = some c → lookRt n s.rt = c
structure Ev.le (E F : Ev) : Prop where
  node : ∀ r nd, E.node r = some nd → F.node r = some nd
  rcd : ∀ n c, E.rcd n = some c → F.rcd n = some c
theorem Ev.le_refl (E : Ev) : E.le E := ⟨fun _ _ h => h, fun _ _ h => h⟩
theorem Ev.le_trans {E F G : Ev} (h : E.le F) (k : F.le G) : E.le G := ⟨fun r nd e => k.node r nd (h.node r nd e), fun n c e => k.rcd n c (h.rcd n c e)⟩
theorem Ev.is_le {E F : Ev} {s : Wd} (h : E.le F) (k : F.is s) : E.is s := ⟨fun r nd e => k.node r nd (h.node r nd e), fun n c e => k.rcd n c (h.rcd n c e)⟩
/-- What is left of work behind some answers, as far as it is known. -/
def Wk.rest (E : Ev) : Wk α → List Int → Wk α
  | .ret v, [] => .ret v
  | .ret _, _ :: _ => .stuck
  | .stuck, _ => .stuck
  | .look r k, l => match E.node r with
    | some nd => (k nd).rest E l
    | none => .stuck
  | .recd n k, l => match E.rcd n with
    | some c => (k c).rest E l
    | none => .stuck
  | .ask f k, [] => .ask f k
  | .ask _ k, n :: l => (k n).rest E l
theorem Wk.rest_le {E F : Ev} (hl : E.le F) : ∀ (p : Wk α) (l : List Int), p.rest E l ≠ .stuck → p.rest F l = p.rest E l
  | .ret v, [], _ => rfl
  | .ret v, _ :: _, h => absurd rfl h
  | .stuck, _, h => absurd (by simp [Wk.rest]) h
  | .look r k, l, h => by
    simp only [Wk.rest] at h ⊢
    cases hn : E.node r with
    | none => rw [hn] at h; exact absurd rfl h
    | some nd =>
      rw [hn] at h
      rw [hl.node r nd hn]
      exact Wk.rest_le hl (k nd) l h
  | .recd n k, l, h => by
    simp only [Wk.rest] at h ⊢
    cases hn : E.rcd n with
    | none => rw [hn] at h; exact absurd rfl h
    | some c =>
      rw [hn] at h
      rw [hl.rcd n c hn]
      exact Wk.rest_le hl (k c) l h
  | .ask f k, [], _ => rfl
  | .ask f k, n :: l, h => by
    simp only [Wk.rest] at h ⊢
    exact Wk.rest_le hl (k n) l h
/-- What is left neither looks nor is stuck. -/
theorem Wk.rest_head {E : Ev} : ∀ (p : Wk α) (l : List Int), p.rest E l ≠ .stuck → (∃ v, p.rest E l = .ret v) ∨ ∃ f k, p.rest E l = .ask f k
  | .ret v, [], _ => .inl ⟨v, rfl⟩
  | .ret v, _ :: _, h => absurd rfl h
  | .stuck, _, h => absurd (by simp [Wk.rest]) h
  | .look r k, l, h => by
    simp only [Wk.rest] at h ⊢
    cases hn : E.node r with
    | none => rw [hn] at h; exact absurd rfl h
    | some nd => rw [hn] at h; exact Wk.rest_head (k nd) l h
  | .recd n k, l, h => by
    simp only [Wk.rest] at h ⊢
    cases hn : E.rcd n with
    | none => rw [hn] at h; exact absurd rfl h
    | some c => rw [hn] at h; exact Wk.rest_head (k c) l h
  | .ask f k, [], _ => .inr ⟨f, k, rfl⟩
  | .ask f k, n :: l, h => by
    simp only [Wk.rest] at h ⊢
    exact Wk.rest_head (k n) l h
theorem Wk.rest_snoc {E F : Ev} (hl : E.le F) {f : Wd → Int × Wd} {k : Int → Wk α} : ∀ (p : Wk α) (l : List Int) (n : Int), p.rest E l = .ask f k → p.rest F (l ++ [n]) = (k n).rest F []
  | .ret v, [], n, h => by simp [Wk.rest] at h
  | .ret v, _ :: _, n, h => by simp [Wk.rest] at h
  | .stuck, _, n, h => by simp [Wk.rest] at h
  | .look r j, l, n, h => by
    simp only [Wk.rest] at h ⊢
    cases hn : E.node r with
    | none => rw [hn] at h; cases h
    | some nd =>
      rw [hn] at h
      rw [hl.node r nd hn]
      exact Wk.rest_snoc hl (j nd) l n h
  | .recd m j, l, n, h => by
    simp only [Wk.rest] at h ⊢
    cases hn : E.rcd m with
    | none => rw [hn] at h; cases h
    | some c =>
      rw [hn] at h
      rw [hl.rcd m c hn]
      exact Wk.rest_snoc hl (j c) l n h
  | .ask g j, [], n, h => by
    simp only [Wk.rest, Wk.ask.injEq] at h
    obtain ⟨rfl, rfl⟩ := h
    simp [Wk.rest]
  | .ask g j, m :: l, n, h => by
    simp only [Wk.rest, List.cons_append] at h ⊢
    exact Wk.rest_snoc hl (j m) l n h
/-- Told again, work comes to where it was. -/
theorem Wk.run_replay {E : Ev} : ∀ (p : Wk α) (x : Tst Wd), E.is x.sh → x.at' ≤ x.log.length → p.rest E (x.log.drop x.at') ≠ .stuck → p.run x = (p.rest E (x.log.drop x.at')).run { x with at' := x.log.length }
  | .ret v, x, _, hle, h => by
    cases hd : x.log.drop x.at' with
    | nil =>
      have : x.at' = x.log.length := by
        have := congrArg List.length hd
        simp at this; omega
      simp only [Wk.rest, Wk.run, ← this]
    | cons n l => rw [hd] at h; exact absurd rfl h
  | .stuck, x, _, _, h => absurd (by simp [Wk.rest]) h
  | .look r k, x, hE, hle, h => by
    simp only [Wk.rest] at h ⊢
    cases hn : E.node r with
    | none => rw [hn] at h; exact absurd rfl h
    | some nd =>
      rw [hn] at h
      rw [Wk.run_look (hE.node r nd hn)]
      exact Wk.run_replay (k nd) x hE hle h
  | .recd n k, x, hE, hle, h => by
    simp only [Wk.rest] at h ⊢
    cases hn : E.rcd n with
    | none => rw [hn] at h; exact absurd rfl h
    | some c =>
      rw [hn] at h
      rw [Wk.run, hE.rcd n c hn]
      exact Wk.run_replay (k c) x hE hle h
  | .ask f k, x, hE, hle, h => by
    by_cases hlt : x.at' < x.log.length
    · have hd : x.log.drop x.at' = x.log[x.at'] :: x.log.drop (x.at' + 1) := List.drop_eq_getElem_cons hlt
      rw [hd] at h ⊢
      simp only [Wk.rest] at h ⊢
      have e : askT f x = (some x.log[x.at'], { x with at' := x.at' + 1 }) := by
        unfold askT
        rw [if_pos hlt]
        simp [List.getD, List.getElem?_eq_getElem hlt]
      rw [Wk.run_some e]
      exact Wk.run_replay (k x.log[x.at']) { x with at' := x.at' + 1 } hE hlt h
    · have e : x.at' = x.log.length := by omega
      rw [List.drop_eq_nil_of_le (by omega)]
      simp only [Wk.rest]
      rw [← e]
/-- One Step of what is left. -/
def Wk.stepR (E : Ev) (q : Wk α) (log : List Int) (s : Wd) : Res α × Tst Wd := match q with
  | .ret v => (.done v, ⟨log, log.length, false, s⟩)
  | .ask f k => match (k (f s).1).rest E [] with
    | .ret v => (.done v, ⟨log ++ [(f s).1], log.length + 1, true, (f s).2⟩)
    | .ask _ _ => (.wait, ⟨log ++ [(f s).1], log.length + 1, true, (f s).2⟩)
    | _ => (.stuck, ⟨log ++ [(f s).1], log.length + 1, true, (f s).2⟩)
  | _ => (.stuck, ⟨log, log.length, false, s⟩)
theorem Wk.run_ret {p : Wk α} {E : Ev} {log : List Int} {s : Wd} {v : α} (hE : E.is s) (h : p.rest E log = .ret v) : p.run ⟨log, 0, false, s⟩ = (.done v, ⟨log, log.length, false, s⟩) := by
  rw [Wk.run_replay p ⟨log, 0, false, s⟩ hE (Nat.zero_le _) (by simp only [List.drop_zero]; rw [h]; simp)]
  simp only [List.drop_zero, h, Wk.run]
theorem Wk.run_step {p : Wk α} {E F : Ev} {log : List Int} {s : Wd} {f : Wd → Int × Wd} {k : Int → Wk α} (hE : E.is s) (hF : F.is (f s).2) (h : p.rest E log = .ask f k) (hns : (k (f s).1).rest F [] ≠ .stuck) :
    p.run ⟨log, 0, false, s⟩ = match (k (f s).1).rest F [] with
      | .ret v => (.done v, ⟨log ++ [(f s).1], log.length + 1, true, (f s).2⟩)
      | _ => (.wait, ⟨log ++ [(f s).1], log.length + 1, true, (f s).2⟩) := by
  rw [Wk.run_replay p ⟨log, 0, false, s⟩ hE (Nat.zero_le _) (by simp only [List.drop_zero]; rw [h]; simp)]
  simp only [List.drop_zero, h]
  have e : askT f (⟨log, log.length, false, s⟩ : Tst Wd) = (some (f s).1, ⟨log ++ [(f s).1], log.length + 1, true, (f s).2⟩) := by
    unfold askT
    rw [if_neg (by simp), if_neg (by simp)]
  rw [Wk.run_some e]
  have hr := Wk.run_replay (E := F) (k (f s).1) ⟨log ++ [(f s).1], log.length + 1, true, (f s).2⟩ hF (by simp) (by rw [List.drop_eq_nil_of_le (by simp)]; exact hns)
  rw [hr, List.drop_eq_nil_of_le (by simp)]
  rcases Wk.rest_head _ _ hns with ⟨v, hv⟩ | ⟨g, j, hg⟩
  · rw [hv]; simp [Wk.run]
  · rw [hg]
    simp only
    refine (Wk.run_none (x' := ⟨log ++ [(f s).1], log.length + 1, true, (f s).2⟩) ?_)
    unfold askT
    simp
end
/-- What is known of a world itself: its nodes; its records. -/
def Wd.ev (s : Wd) : Ev := ⟨lookWd s, fun n => (entOf s.rt.es n).map Ent.rc⟩
theorem Wd.ev_is (s : Wd) : s.ev.is s := ⟨fun _ _ h => h, fun n c h => by
  have h : (entOf s.rt.es n).map Ent.rc = some c := h
  unfold lookRt
  rw [h]; rfl⟩
end Go.Proofs.Ytkbnoceekileiaa
