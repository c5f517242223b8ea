/- Any helpers of one record, in any order of their touches: the plain law. No program but the touches' own laws. -/
import Derived.Test.YthkohomogknddaaHnw
import Derived.Test.YthkohomogknddaaSys
namespace Go.Proofs.Ythkohomogknddaa
open Go Go.RowKit
set_option linter.unusedVariables false
set_option linter.unusedSimpArgs false
set_option maxRecDepth 100000
/-- What may change: the nodes, the record's state, whether all are its own. -/
structure Hs where
  L : List Nk
  st : Int
  al : Bool
def myR (k : Nat) (keep : Int) : Rc := ⟨tolds k, List.replicate k 0, keep, 1, 201, 99⟩
def hsW (k : Nat) (keep : Int) (ep : Ep) (x : Hs) : Wd := ⟨nkS x.L, ⟨[⟨tolds k, List.replicate k 0, keep, 1, 201, 99, x.st, x.al⟩], 40⟩, ep⟩
theorem nkSl_inj {i : Nat} {a b : Nk} (h : nkSl i a = nkSl i b) : a = b := by
  obtain ⟨a1, a2, a3, a4⟩ := a
  obtain ⟨b1, b2, b3, b4⟩ := b
  simp only [nkSl, Sl.mk.injEq, List.cons.injEq, and_true, true_and] at h
  simp only [Nk.mk.injEq]
  obtain ⟨⟨h3, h4⟩, h1, h2⟩ := h
  exact ⟨h1, h2, h3, h4⟩
theorem nkS_inj {L M : List Nk} (h : nkS L = nkS M) : L = M := by
  have h1 : [rootSl, entrySl] ++ L.mapIdx nkSl = [rootSl, entrySl] ++ M.mapIdx nkSl := congrArg Ar.slots h
  have h2 := List.append_cancel_left h1
  apply List.ext_getElem?
  intro i
  have h3 := congrArg (fun l => l[i]?) h2
  simp only [List.getElem?_mapIdx] at h3
  cases ha : L[i]? with
  | none =>
    cases hb : M[i]? with
    | none => rfl
    | some b => rw [ha, hb] at h3; simp at h3
  | some a =>
    cases hb : M[i]? with
    | none => rw [ha, hb] at h3; simp at h3
    | some b => rw [ha, hb] at h3; simp at h3; rw [nkSl_inj h3]
theorem hsW_inj {k : Nat} {keep : Int} {ep : Ep} {x y : Hs} (h : hsW k keep ep x = hsW k keep ep y) : x = y := by
  obtain ⟨L, a, b⟩ := x
  obtain ⟨M, c, d⟩ := y
  simp only [hsW, Wd.mk.injEq, Rt.mk.injEq, List.cons.injEq, Ent.mk.injEq, and_true, true_and] at h
  obtain ⟨h1, h2, h3⟩ := h
  rw [nkS_inj h1, h2, h3]
section
variable {k : Nat} {keep : Int} {ep : Ep} {x : Hs}
theorem hs_look : lookRt 1 (hsW k keep ep x).rt = myR k keep := rfl
theorem hs_swap {i : Nat} {y : Nk} (h : x.L[i]? = some y) (hl : x.L.length ≤ 1000) : aSwapInfo (told i) 0 1 (hsW k keep ep x) = if y.inf = 0 then (1, hsW k keep ep { x with L := x.L.set i { y with inf := 1 } }) else (0, hsW k keep ep x) := by
  unfold aSwapInfo hsW
  dsimp only
  rw [nk_swapInfo h hl]
  split <;> rfl
theorem hs_info {i : Nat} {y : Nk} (h : x.L[i]? = some y) (hl : x.L.length ≤ 1000) : aInfo (told i) (hsW k keep ep x) = (y.inf, hsW k keep ep x) := by
  unfold aInfo hsW
  dsimp only
  rw [nk_info h hl]
theorem hs_all : aAll 1 (hsW k keep ep x) = (bit x.al, hsW k keep ep x) := rfl
theorem hs_set (v : Int) : aSet 1 v (hsW k keep ep x) = (0, hsW k keep ep { x with st := v }) := rfl
theorem hs_setAll : aSetAll 1 (hsW k keep ep x) = (0, hsW k keep ep { x with al := true }) := rfl
theorem hs_mark {i : Nat} {y : Nk} (h : x.L[i]? = some y) (hl : x.L.length ≤ 1000) : aSetMark (told i) (hsW k keep ep x) = (0, hsW k keep ep { x with L := x.L.set i { y with mrk := true } }) := by
  unfold aSetMark hsW
  dsimp only
  rw [nk_setMark h hl]
theorem hs_way {y : Nk} (h : x.L[0]? = some y) (hl : x.L.length ≤ 1000) : aSwapWay (told 0) 1 201 99 (hsW k keep ep x) = if y.b = 201 then (1, hsW k keep ep { x with L := x.L.set 0 { y with b := 99 } }) else (0, hsW k keep ep x) := by
  unfold aSwapWay hsW
  dsimp only
  rw [nk_swapWay h hl]
  rw [if_neg (by omega)]
  by_cases e : y.b = 201
  · rw [if_pos ⟨rfl, e⟩, if_pos e]; rfl
  · rw [if_neg (fun z => e z.2), if_neg e]; rfl
end
/-- What holds at any time: q is the first node that was not as it was, k if there is none; i0 is what each had. -/
structure HsInv (k : Nat) (keep : Int) (q : Nat) (i0 : Nat → Int) (x : Hs) : Prop where
  len : x.L.length = k
  inf : ∀ (i : Nat) (y : Nk), x.L[i]? = some y → (y.inf = 1 ∧ i < q) ∨ y.inf = i0 i
  way : ∀ y : Nk, x.L[0]? = some y → y.a = 200 ∧ (y.b = 201 ∨ y.b = 99)
  mrk : ∀ (i : Nat) (y : Nk), x.L[i]? = some y → y.mrk = true → keep ≤ (i : Int)
  bad : q < k → x.al = false ∧ (x.st = 0 ∨ x.st = 1) ∧ ∀ (i : Nat) (y : Nk), x.L[i]? = some y → y.mrk = false ∧ (i = 0 → y.b = 201)
  good : q = k → x.st = 1 ∨ x.st = 2
/-- Later. -/
structure HsLe (x z : Hs) : Prop where
  nod : ∀ (i : Nat) (y : Nk), x.L[i]? = some y → ∃ v : Nk, z.L[i]? = some v ∧ (y.inf = 1 → v.inf = 1) ∧ (y.inf ≠ 0 → v.inf ≠ 0) ∧ (y.mrk = true → v.mrk = true) ∧ (y.b = 99 → v.b = 99)
  al : x.al = true → z.al = true
  st : x.st ≠ 1 → z.st = x.st
theorem HsLe.refl (x : Hs) : HsLe x x := ⟨fun i y h => ⟨y, h, id, id, id, id⟩, id, fun _ => rfl⟩
theorem HsLe.set {x : Hs} {i : Nat} {y v : Nk} (h : x.L[i]? = some y) (h1 : y.inf = 1 → v.inf = 1) (h2 : y.inf ≠ 0 → v.inf ≠ 0) (h3 : y.mrk = true → v.mrk = true) (h4 : y.b = 99 → v.b = 99) : HsLe x { x with L := x.L.set i v } := by
  refine ⟨fun j u hu => ?_, id, fun _ => rfl⟩
  have hi := (List.getElem?_eq_some_iff.1 h).1
  by_cases hj : i = j
  · subst hj
    rw [h] at hu
    injection hu with hu
    subst hu
    exact ⟨v, List.getElem?_set_self hi, h1, h2, h3, h4⟩
  · exact ⟨u, by dsimp only; rw [List.getElem?_set_ne hj]; exact hu, id, id, id, id⟩
/-- Where a helper stands. -/
inductive Ph where
  | A (i : Nat)
  | B (i : Nat)
  | C
  | E
  | S
  | M (j : Nat)
  | W
  | F
def wrapP (k : Nat) (keep : Int) (q : Wk (Option Bool)) : Wk (List Int) := (q.bind (moreP 1 (myR k keep))).bind fun b => .ret [bit b]
def nil0 : Wk Bool := .ask (aSet 1 2) fun _ => .ret true
def Ph.prog (k : Nat) (keep : Int) : Ph → Wk (List Int)
  | .A i => wrapP k keep (infosP 1 (((tolds k).zip (List.replicate k 0)).drop i))
  | .B i => wrapP k keep (.ask (aInfo (told i)) (inf2 1 (infosP 1 (((tolds k).zip (List.replicate k 0)).drop (i + 1)))))
  | .C => wrapP k keep (.ask (aAll 1) (inf3 1))
  | .E => wrapP k keep (.ask (aSet 1 0) fun _ => .ret (some false))
  | .S => (endP 1 (myR k keep)).bind fun b => .ret [bit b]
  | .M j => ((marksP ((keepL (myR k keep)).drop j)).bind fun _ => (firstP (myR k keep)).bind fun _ => nil0).bind fun b => .ret [bit b]
  | .W => ((firstP (myR k keep)).bind fun _ => nil0).bind fun b => .ret [bit b]
  | .F => nil0.bind fun b => .ret [bit b]
def Ph.pos : Ph → Nat
  | .A i => 2 * i
  | .B i => 2 * i + 1
  | .C => 12
  | .E => 13
  | .S => 10
  | .M j => 11 + j
  | .W => 16
  | .F => 17
/-- All that are to go have been marked, up to some. -/
def Marked (keep : Int) (x : Hs) (n : Int) : Prop := ∀ (i : Nat) (y : Nk), x.L[i]? = some y → keep ≤ (i : Int) → (i : Int) < n → y.mrk = true
def Own (x : Hs) (n : Nat) : Prop := ∀ (i : Nat) (y : Nk), x.L[i]? = some y → i < n → y.inf = 1
def Ph.ok (k : Nat) (keep : Int) (q : Nat) (x : Hs) : Ph → Prop
  | .A i => i < k ∧ Own x i
  | .B i => i < k ∧ Own x i ∧ ∀ y : Nk, x.L[i]? = some y → y.inf ≠ 0
  | .C => q < k
  | .E => q < k
  | .S => q = k ∧ Own x k
  | .M j => q = k ∧ x.al = true ∧ keep + j < k ∧ Marked keep x (keep + j)
  | .W => q = k ∧ x.al = true ∧ Marked keep x k
  | .F => q = k ∧ x.al = true ∧ Marked keep x k ∧ ∀ y : Nk, x.L[0]? = some y → y.b = 99
theorem Own.mono {x z : Hs} {n : Nat} (h : Own x n) (hl : HsLe x z) (he : z.L.length = x.L.length) : Own z n := fun i v hv hi => by
  obtain ⟨y, hy⟩ : ∃ y, x.L[i]? = some y := ⟨_, List.getElem?_eq_getElem (by rw [← he]; exact (List.getElem?_eq_some_iff.1 hv).1)⟩
  obtain ⟨u, hu, h1, _⟩ := hl.nod i y hy
  rw [hv] at hu
  injection hu with hu
  subst hu
  exact h1 (h i y hy hi)
theorem Marked.mono {keep n : Int} {x z : Hs} (h : Marked keep x n) (hl : HsLe x z) (he : z.L.length = x.L.length) : Marked keep z n := fun i v hv h1 h2 => by
  obtain ⟨y, hy⟩ : ∃ y, x.L[i]? = some y := ⟨_, List.getElem?_eq_getElem (by rw [← he]; exact (List.getElem?_eq_some_iff.1 hv).1)⟩
  obtain ⟨u, hu, _, _, h3, _⟩ := hl.nod i y hy
  rw [hv] at hu
  injection hu with hu
  subst hu
  exact h3 (h i y hy h1 h2)
theorem at_mono {x z : Hs} (hl : HsLe x z) (he : z.L.length = x.L.length) {i : Nat} {v : Nk} (hv : z.L[i]? = some v) : ∃ y : Nk, x.L[i]? = some y ∧ (y.inf = 1 → v.inf = 1) ∧ (y.inf ≠ 0 → v.inf ≠ 0) ∧ (y.mrk = true → v.mrk = true) ∧ (y.b = 99 → v.b = 99) := by
  obtain ⟨y, hy⟩ : ∃ y, x.L[i]? = some y := ⟨_, List.getElem?_eq_getElem (by rw [← he]; exact (List.getElem?_eq_some_iff.1 hv).1)⟩
  obtain ⟨u, hu, h⟩ := hl.nod i y hy
  rw [hv] at hu
  injection hu with hu
  subst hu
  exact ⟨y, hy, h⟩
theorem Ph.mono {k : Nat} {keep : Int} {q : Nat} {x z : Hs} (hl : HsLe x z) (he : z.L.length = x.L.length) : ∀ (p : Ph), p.ok k keep q x → p.ok k keep q z
  | .A i, h => ⟨h.1, h.2.mono hl he⟩
  | .B i, h => ⟨h.1, h.2.1.mono hl he, fun v hv => by
    obtain ⟨y, hy, _, h2, _⟩ := at_mono hl he hv
    exact h2 (h.2.2 y hy)⟩
  | .C, h => h
  | .E, h => h
  | .S, h => ⟨h.1, h.2.mono hl he⟩
  | .M j, h => ⟨h.1, hl.al h.2.1, h.2.2.1, h.2.2.2.mono hl he⟩
  | .W, h => ⟨h.1, hl.al h.2.1, h.2.2.mono hl he⟩
  | .F, h => ⟨h.1, hl.al h.2.1, h.2.2.1.mono hl he, fun v hv => by
    obtain ⟨y, hy, _, _, _, h4⟩ := at_mono hl he hv
    exact h4 (h.2.2.2 y hy)⟩
/-- Behind its end. -/
def Fin (k : Nat) (keep : Int) (q : Nat) (x : Hs) (v : List Int) : Prop := v = [bit (decide (q = k))] ∧ (q < k → x.st = 0) ∧ (q = k → x.st = 2 ∧ Ph.ok k keep q x .F)
theorem Fin.mono {k : Nat} {keep : Int} {q : Nat} {x z : Hs} {v : List Int} (hl : HsLe x z) (he : z.L.length = x.L.length) (h : Fin k keep q x v) : Fin k keep q z v :=
  ⟨h.1, fun hq => by have := h.2.1 hq; rw [hl.st (by omega), this], fun hq => ⟨by have := (h.2.2 hq).1; rw [hl.st (by omega), this], Ph.mono hl he .F (h.2.2 hq).2⟩⟩
def myG (k : Nat) (keep : Int) (q : Nat) (i0 : Nat → Int) (ep : Ep) (σ : Int) : Game where
  I := fun s => ∃ x, s = hsW k keep ep x ∧ HsInv k keep q i0 x ∧ (σ ≠ 1 → x.st = σ)
  P := fun _ log s => ∃ x p, s = hsW k keep ep x ∧ Ph.ok k keep q x p ∧ (helperP 1).rest (evR 1 (myR k keep)) log = p.prog k keep ∧ log.length ≤ p.pos
  D := fun _ v s => ∃ x, s = hsW k keep ep x ∧ Fin k keep q x v
  m := fun _ log _ => 40 - log.length
  H := fun _ => True
end Go.Proofs.Ythkohomogknddaa
