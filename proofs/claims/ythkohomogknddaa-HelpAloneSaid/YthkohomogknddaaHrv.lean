/- Two records that were made of the same time: what lies in memory, what touches do, what holds at any time. No program but the touches' own laws. -/
import Derived.Test.YthkohomogknddaaHmz
namespace Go.Proofs.Ythkohomogknddaa
open Go Go.RowKit
set_option linter.unusedVariables false
set_option linter.unusedSimpArgs false
set_option maxRecDepth 100000
/-- A record of some of five nodes: which, and what the way is to be. -/
structure Rv where
  ps : List Nat
  nw : Int
def Rv.hd (R : Rv) : Nat := R.ps.headD 0
def Rv.rc (R : Rv) : Rc := ⟨R.ps.map told, List.replicate R.ps.length 0, 1, 0, 200 + 10 * (R.hd : Int), R.nw⟩
/-- What may change. -/
structure H2 where
  L : List Nk
  s1 : Int
  a1 : Bool
  s2 : Int
  a2 : Bool
def rvE (R : Rv) (st : Int) (al : Bool) : Ent := ⟨R.ps.map told, List.replicate R.ps.length 0, 1, 0, 200 + 10 * (R.hd : Int), R.nw, st, al⟩
def h2W (A B : Rv) (ep : Ep) (x : H2) : Wd := ⟨nkS x.L, ⟨[rvE A x.s1 x.a1, rvE B x.s2 x.a2], 40⟩, ep⟩
/-- Which of the two: its number, its state, whether all are its own. -/
def rvN (w : Bool) : Int := if w = true then 1 else 2
def rvR (A B : Rv) (w : Bool) : Rv := if w = true then A else B
def H2.st (x : H2) (w : Bool) : Int := if w = true then x.s1 else x.s2
def H2.al (x : H2) (w : Bool) : Bool := if w = true then x.a1 else x.a2
def H2.setSt (x : H2) (w : Bool) (v : Int) : H2 := if w = true then { x with s1 := v } else { x with s2 := v }
def H2.setAl (x : H2) (w : Bool) : H2 := if w = true then { x with a1 := true } else { x with a2 := true }
theorem h2W_inj {A B : Rv} {ep : Ep} {x y : H2} (h : h2W A B ep x = h2W A B ep y) : x = y := by
  obtain ⟨L, a, b, c, d⟩ := x
  obtain ⟨M, a', b', c', d'⟩ := y
  simp only [h2W, rvE, Wd.mk.injEq, Rt.mk.injEq, List.cons.injEq, Ent.mk.injEq, and_true, true_and] at h
  obtain ⟨h1, ⟨h2, h3⟩, h4, h5⟩ := h
  rw [nkS_inj h1, h2, h3, h4, h5]
section
variable {A B : Rv} {ep : Ep} {x : H2} {w : Bool}
theorem rv_look : lookRt (rvN w) (h2W A B ep x).rt = (rvR A B w).rc := by cases w <;> rfl
theorem rv_swap {i : Nat} {y : Nk} (h : x.L[i]? = some y) (hl : x.L.length ≤ 1000) (n : Int) : aSwapInfo (told i) 0 n (h2W A B ep x) = if y.inf = 0 then (1, h2W A B ep { x with L := x.L.set i { y with inf := n } }) else (0, h2W A B ep x) := by
  unfold aSwapInfo h2W
  dsimp only
  rw [nk_swapInfo h hl]
  split <;> rfl
theorem rv_info {i : Nat} {y : Nk} (h : x.L[i]? = some y) (hl : x.L.length ≤ 1000) : aInfo (told i) (h2W A B ep x) = (y.inf, h2W A B ep x) := by
  unfold aInfo h2W
  dsimp only
  rw [nk_info h hl]
theorem rv_all : aAll (rvN w) (h2W A B ep x) = (bit (x.al w), h2W A B ep x) := by cases w <;> rfl
theorem rv_set (v : Int) : aSet (rvN w) v (h2W A B ep x) = (0, h2W A B ep (x.setSt w v)) := by cases w <;> rfl
theorem rv_setAll : aSetAll (rvN w) (h2W A B ep x) = (0, h2W A B ep (x.setAl w)) := by cases w <;> rfl
theorem rv_mark {i : Nat} {y : Nk} (h : x.L[i]? = some y) (hl : x.L.length ≤ 1000) : aSetMark (told i) (h2W A B ep x) = (0, h2W A B ep { x with L := x.L.set i { y with mrk := true } }) := by
  unfold aSetMark h2W
  dsimp only
  rw [nk_setMark h hl]
theorem rv_way {i : Nat} {y : Nk} (h : x.L[i]? = some y) (hl : x.L.length ≤ 1000) (old now : Int) : aSwapWay (told i) 0 old now (h2W A B ep x) = if y.a = old then (1, h2W A B ep { x with L := x.L.set i { y with a := now } }) else (0, h2W A B ep x) := by
  unfold aSwapWay h2W
  dsimp only
  rw [nk_swapWay h hl]
  by_cases e : y.a = old
  · rw [if_pos ⟨rfl, e⟩, if_pos e]; rfl
  · rw [if_neg (fun z => e z.2), if_neg e, if_neg (fun z => by omega)]; rfl
end
/-- All of a record's nodes are its own; one of them is another's. -/
def OwnR (R : Rv) (n : Int) (x : H2) (k : Nat) : Prop := ∀ (i p : Nat) (y : Nk), i < k → R.ps[i]? = some p → x.L[p]? = some y → y.inf = n
def AllR (R : Rv) (n : Int) (x : H2) : Prop := OwnR R n x R.ps.length
def Lost (R : Rv) (n : Int) (x : H2) : Prop := ∃ (p : Nat) (y : Nk), p ∈ R.ps ∧ x.L[p]? = some y ∧ y.inf ≠ 0 ∧ y.inf ≠ n
def WayR (R : Rv) (x : H2) : Prop := ∀ y : Nk, x.L[R.hd]? = some y → y.a = R.nw
/-- What holds at any time. -/
structure RvInv (A B : Rv) (x : H2) : Prop where
  len : x.L.length = 5
  rng : ∀ (p : Nat) (y : Nk), x.L[p]? = some y → y.inf = 0 ∨ ∃ w, y.inf = rvN w ∧ p ∈ (rvR A B w).ps
  pre : ∀ (w : Bool) (i j p q : Nat) (y z : Nk), i < j → (rvR A B w).ps[i]? = some p → (rvR A B w).ps[j]? = some q → x.L[p]? = some y → x.L[q]? = some z → z.inf = rvN w → y.inf = rvN w
  way : ∀ (p : Nat) (y : Nk), x.L[p]? = some y → y.a = 200 + 10 * (p : Int) ∨ ∃ w, y.a = (rvR A B w).nw ∧ p = (rvR A B w).hd ∧ AllR (rvR A B w) (rvN w) x
  al : ∀ w, x.al w = true → AllR (rvR A B w) (rvN w) x
  st : ∀ w, x.st w = 1 ∨ (x.st w = 0 ∧ Lost (rvR A B w) (rvN w) x) ∨ (x.st w = 2 ∧ AllR (rvR A B w) (rvN w) x ∧ WayR (rvR A B w) x)
/-- Later. -/
structure RvLe (x z : H2) : Prop where
  nod : ∀ (p : Nat) (y : Nk), x.L[p]? = some y → ∃ v : Nk, z.L[p]? = some v ∧ (y.inf ≠ 0 → v.inf = y.inf) ∧ (y.a ≠ 200 + 10 * (p : Int) → v.a = y.a)
  len : z.L.length = x.L.length
  al : ∀ w, x.al w = true → z.al w = true
  st : ∀ w, x.st w ≠ 1 → z.st w = x.st w
theorem RvLe.refl (x : H2) : RvLe x x := ⟨fun p y h => ⟨y, h, fun _ => rfl, fun _ => rfl⟩, rfl, fun _ => id, fun _ _ => rfl⟩
theorem RvLe.back {x z : H2} (h : RvLe x z) {p : Nat} {v : Nk} (hv : z.L[p]? = some v) : ∃ y : Nk, x.L[p]? = some y ∧ (y.inf ≠ 0 → v.inf = y.inf) ∧ (y.a ≠ 200 + 10 * (p : Int) → v.a = y.a) := by
  obtain ⟨y, hy⟩ : ∃ y, x.L[p]? = some y := ⟨_, List.getElem?_eq_getElem (by rw [← h.len]; exact (List.getElem?_eq_some_iff.1 hv).1)⟩
  obtain ⟨u, hu, h1⟩ := h.nod p y hy
  rw [hv] at hu
  injection hu with hu
  subst hu
  exact ⟨y, hy, h1⟩
theorem rvN_ne (w : Bool) : rvN w ≠ 0 := by cases w <;> decide
theorem OwnR.mono {R : Rv} {w : Bool} {x z : H2} {k : Nat} (h : OwnR R (rvN w) x k) (hl : RvLe x z) : OwnR R (rvN w) z k := fun i p v hi hp hv => by
  obtain ⟨y, hy, h1, _⟩ := hl.back hv
  have := h i p y hi hp hy
  rw [h1 (by rw [this]; exact rvN_ne w), this]
theorem Lost.mono {R : Rv} {n : Int} {x z : H2} (h : Lost R n x) (hl : RvLe x z) : Lost R n z := by
  obtain ⟨p, y, h1, h2, h3, h4⟩ := h
  obtain ⟨v, hv, h5, _⟩ := hl.nod p y h2
  exact ⟨p, v, h1, hv, by rw [h5 h3]; exact h3, by rw [h5 h3]; exact h4⟩
theorem WayR.mono {R : Rv} {x z : H2} (h : WayR R x) (hl : RvLe x z) (hn : R.nw ≠ 200 + 10 * (R.hd : Int)) : WayR R z := fun v hv => by
  obtain ⟨y, hy, _, h2⟩ := hl.back hv
  have := h y hy
  rw [h2 (by rw [this]; exact hn), this]
theorem lost_all {R : Rv} {n : Int} {x : H2} (h : Lost R n x) (k : AllR R n x) : False := by
  obtain ⟨p, y, h1, h2, h3, h4⟩ := h
  obtain ⟨i, hi, rfl⟩ := List.mem_iff_getElem.1 h1
  exact h4 (k i _ y hi (List.getElem?_eq_getElem hi) h2)
/-- Where they have a node in common, not both can have all; and not both can have lost one. -/
theorem not_both {A B : Rv} {x : H2} (hv : RvInv A B x) {p : Nat} (ha : p ∈ A.ps) (hb : p ∈ B.ps) (h5 : p < 5) (h1 : AllR A 1 x) (h2 : AllR B 2 x) : False := by
  obtain ⟨y, hy⟩ : ∃ y, x.L[p]? = some y := ⟨_, List.getElem?_eq_getElem (by rw [hv.len]; exact h5)⟩
  obtain ⟨i, hi, e1⟩ := List.mem_iff_getElem.1 ha
  obtain ⟨j, hj, e2⟩ := List.mem_iff_getElem.1 hb
  have k1 := h1 i p y hi (by rw [← e1]; exact List.getElem?_eq_getElem hi) hy
  have k2 := h2 j p y hj (by rw [← e2]; exact List.getElem?_eq_getElem hj) hy
  omega
theorem not_lost {A B : Rv} {x : H2} (hv : RvInv A B x) (sa : A.ps.Pairwise (· < ·)) (sb : B.ps.Pairwise (· < ·)) (h1 : Lost A 1 x) (h2 : Lost B 2 x) : False := by
  obtain ⟨p, y, p1, p2, p3, p4⟩ := h1
  obtain ⟨q, z, q1, q2, q3, q4⟩ := h2
  have yp : y.inf = 2 ∧ p ∈ B.ps := by
    rcases hv.rng p y p2 with h | ⟨w, h, h'⟩
    · exact absurd h p3
    · cases w with
      | true => exact absurd h p4
      | false => exact ⟨h, h'⟩
  have zq : z.inf = 1 ∧ q ∈ A.ps := by
    rcases hv.rng q z q2 with h | ⟨w, h, h'⟩
    · exact absurd h q3
    · cases w with
      | true => exact ⟨h, h'⟩
      | false => exact absurd h q4
  have ord : ∀ (l : List Nat), l.Pairwise (· < ·) → ∀ (i j : Nat) (hi : i < l.length) (hj : j < l.length), l[i] < l[j] → i < j := fun l hl i j hi hj h => by
    rcases (by omega : i < j ∨ i = j ∨ j < i) with h' | h' | h'
    · exact h'
    · subst h'; omega
    · have := List.pairwise_iff_getElem.1 hl j i hj hi h'; omega
  rcases (by omega : p < q ∨ p = q ∨ q < p) with h | h | h
  · obtain ⟨i, hi, e1⟩ := List.mem_iff_getElem.1 p1
    obtain ⟨j, hj, e2⟩ := List.mem_iff_getElem.1 zq.2
    have hij := ord A.ps sa i j hi hj (by omega)
    have := hv.pre true i j p q y z hij (by show A.ps[i]? = _; rw [← e1]; exact List.getElem?_eq_getElem hi) (by show A.ps[j]? = _; rw [← e2]; exact List.getElem?_eq_getElem hj) p2 q2 zq.1
    exact p4 this
  · subst h
    rw [p2] at q2
    injection q2 with q2
    subst q2
    omega
  · obtain ⟨i, hi, e1⟩ := List.mem_iff_getElem.1 q1
    obtain ⟨j, hj, e2⟩ := List.mem_iff_getElem.1 yp.2
    have hij := ord B.ps sb i j hi hj (by omega)
    have := hv.pre false i j q p z y hij (by show B.ps[i]? = _; rw [← e1]; exact List.getElem?_eq_getElem hi) (by show B.ps[j]? = _; rw [← e2]; exact List.getElem?_eq_getElem hj) q2 p2 yp.1
    exact q4 this
end Go.Proofs.Ythkohomogknddaa
