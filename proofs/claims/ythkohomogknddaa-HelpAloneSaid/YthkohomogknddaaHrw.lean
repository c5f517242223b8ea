/- Two records that were made of the same time: each touch keeps the plain law. No program. -/
import Derived.Test.YthkohomogknddaaHrv
namespace Go.Proofs.Ythkohomogknddaa
open Go Go.RowKit
set_option linter.unusedVariables false
set_option linter.unusedSimpArgs false
set_option maxRecDepth 100000
def zipR (R : Rv) : List (Int × Int) := (R.ps.map told).zip (List.replicate R.ps.length (0 : Int))
def wrapR (R : Rv) (n : Int) (q : Wk (Option Bool)) : Wk (List Int) := (q.bind (moreP n R.rc)).bind fun b => .ret [bit b]
def nilN (n : Int) : Wk Bool := .ask (aSet n 2) fun _ => .ret true
def retB (q : Wk Bool) : Wk (List Int) := q.bind fun b => .ret [bit b]
def Ph.progR (R : Rv) (n : Int) : Ph → Wk (List Int)
  | .A i => wrapR R n (infosP n ((zipR R).drop i))
  | .B i => wrapR R n (.ask (aInfo (told (R.ps.getD i 0))) (inf2 n (infosP n ((zipR R).drop (i + 1)))))
  | .C => wrapR R n (.ask (aAll n) (inf3 n))
  | .E => wrapR R n (.ask (aSet n 0) fun _ => .ret (some false))
  | .S => retB (endP n R.rc)
  | .M j => retB ((marksP ((keepL R.rc).drop j)).bind fun _ => (firstP R.rc).bind fun _ => nilN n)
  | .W => retB ((firstP R.rc).bind fun _ => nilN n)
  | .F => retB (nilN n)
def Ph.okR (R : Rv) (n : Int) (x : H2) : Ph → Prop
  | .A i => i < R.ps.length ∧ OwnR R n x i
  | .B i => i < R.ps.length ∧ OwnR R n x i ∧ ∀ y : Nk, x.L[R.ps.getD i 0]? = some y → y.inf ≠ 0
  | .C => Lost R n x
  | .E => Lost R n x
  | .S => AllR R n x
  | .M j => AllR R n x ∧ j + 1 < R.ps.length
  | .W => AllR R n x
  | .F => AllR R n x ∧ WayR R x
/-- A record that may be. -/
structure RvOk (R : Rv) : Prop where
  l1 : 1 ≤ R.ps.length
  l5 : R.ps.length ≤ 5
  lt : ∀ p ∈ R.ps, p < 5
  up : R.ps.Pairwise (· < ·)
  nw : ∀ p : Nat, p < 5 → R.nw ≠ 200 + 10 * (p : Int)
theorem RvOk.hd_mem {R : Rv} (h : RvOk R) : R.hd ∈ R.ps ∧ R.ps[0]? = some R.hd := by
  obtain ⟨ps, nw⟩ := R
  cases ps with
  | nil => have := h.l1; simp at this
  | cons p l => exact ⟨by simp [Rv.hd], by simp [Rv.hd]⟩
theorem Ph.monoR {R : Rv} (hR : RvOk R) {w : Bool} {x z : H2} (hl : RvLe x z) : ∀ (p : Ph), p.okR R (rvN w) x → p.okR R (rvN w) z
  | .A i, h => ⟨h.1, h.2.mono hl⟩
  | .B i, h => ⟨h.1, h.2.1.mono hl, fun v hv => by
    obtain ⟨y, hy, h1, _⟩ := hl.back hv
    have := h.2.2 y hy
    rw [h1 this]; exact this⟩
  | .C, h => Lost.mono h hl
  | .E, h => Lost.mono h hl
  | .S, h => OwnR.mono h hl
  | .M j, h => ⟨OwnR.mono h.1 hl, h.2⟩
  | .W, h => OwnR.mono h hl
  | .F, h => ⟨OwnR.mono h.1 hl, h.2.mono hl (hR.nw _ (hR.lt _ hR.hd_mem.1))⟩
def rvG (A B : Rv) (ep : Ep) (who : Nat → Bool) : Game where
  I := fun s => ∃ x, s = h2W A B ep x ∧ RvInv A B x
  P := fun i log s => ∃ x p, s = h2W A B ep x ∧ Ph.okR (rvR A B (who i)) (rvN (who i)) x p ∧ (helperP (rvN (who i))).rest (evR (rvN (who i)) (rvR A B (who i)).rc) log = p.progR (rvR A B (who i)) (rvN (who i)) ∧ log.length ≤ p.pos
  D := fun i v s => ∃ x, s = h2W A B ep x ∧ ((v = [1] ∧ x.st (who i) = 2) ∨ (v = [0] ∧ x.st (who i) = 0))
  m := fun _ log _ => 40 - log.length
  H := fun _ => True
theorem zipR_drop {R : Rv} {i : Nat} (h : i < R.ps.length) : (zipR R).drop i = (told (R.ps.getD i 0), 0) :: (zipR R).drop (i + 1) := by
  unfold zipR
  rw [List.drop_eq_getElem_cons (by simp; exact h)]
  congr 1
  simp [List.getElem_zip, List.getD_eq_getElem?_getD, List.getElem?_eq_getElem h]
theorem zipR_end (R : Rv) : (zipR R).drop R.ps.length = [] := List.drop_eq_nil_of_le (by simp [zipR])
section
variable {A B : Rv} {ep : Ep} {x : H2} {w : Bool} {who : Nat → Bool}
theorem rv_get (hv : RvInv A B x) {p : Nat} (h : p < 5) : ∃ y, x.L[p]? = some y := ⟨_, List.getElem?_eq_getElem (by rw [hv.len]; exact h)⟩
/-- What comes behind i nodes. -/
theorem rv_after {R : Rv} (hR : RvOk R) {n : Int} {i : Nat} (hi : i ≤ R.ps.length) (ho : OwnR R n x i) : ∃ (p : Ph) (f : Wd → Int × Wd) (kk : Int → Wk (List Int)), p.okR R n x ∧ p.progR R n = .ask f kk ∧ (wrapR R n (infosP n ((zipR R).drop i))).rest (evR n R.rc) [] = .ask f kk ∧ 2 * i ≤ p.pos ∧ p.pos ≤ 17 := by
  have h5 := hR.l5
  rcases (by omega : i < R.ps.length ∨ i = R.ps.length) with h | h
  · refine ⟨.A i, aSwapInfo (told (R.ps.getD i 0)) 0 n, fun a => retB ((inf1 n (told (R.ps.getD i 0)) (infosP n ((zipR R).drop (i + 1))) a).bind (moreP n R.rc)), ⟨h, ho⟩, ?_, ?_, by simp [Ph.pos], by simp [Ph.pos]; omega⟩
    · show wrapR R n (infosP n ((zipR R).drop i)) = _
      rw [zipR_drop h]; rfl
    · rw [zipR_drop h]; rfl
  · subst h
    refine ⟨.S, _, _, ho, rfl, ?_, by simp [Ph.pos]; omega, by simp [Ph.pos]⟩
    rw [zipR_end]; rfl
theorem keepR {R : Rv} (hR : RvOk R) : keepL R.rc = (R.ps.map told).drop 1 := by
  unfold keepL Rv.rc
  dsimp only
  have := hR.l1
  rw [List.length_map, show (min 1 (R.ps.length : Int)).toNat = 1 by omega]
theorem firstR {R : Rv} (hR : RvOk R) : firstP R.rc = .ask (aSwapWay (told R.hd) 0 (200 + 10 * (R.hd : Int)) R.nw) fun _ => .ret () := by
  obtain ⟨ps, nw⟩ := R
  cases ps with
  | nil => have := hR.l1; simp at this
  | cons p l => rfl
theorem keepR_drop {R : Rv} (hR : RvOk R) {j : Nat} (h : j + 1 < R.ps.length) : (keepL R.rc).drop j = told (R.ps.getD (j + 1) 0) :: (keepL R.rc).drop (j + 1) := by
  rw [keepR hR, List.drop_drop, List.drop_drop, List.drop_eq_getElem_cons (by simp; omega)]
  congr 1
  · simp [List.getD_eq_getElem?_getD, List.getElem?_eq_getElem h, Nat.add_comm]
/-- What comes behind j marks. -/
theorem rv_marks {R : Rv} (hR : RvOk R) {n : Int} {j : Nat} (hj : j ≤ 4) (ho : AllR R n x) : ∃ (p : Ph) (f : Wd → Int × Wd) (kk : Int → Wk (List Int)), p.okR R n x ∧ p.progR R n = .ask f kk ∧
    (retB ((marksP ((keepL R.rc).drop j)).bind fun _ => (firstP R.rc).bind fun _ => nilN n)).rest (evR n R.rc) [] = .ask f kk ∧ 11 + j ≤ p.pos ∧ p.pos ≤ 17 := by
  have h5 := hR.l5
  rcases (by omega : j + 1 < R.ps.length ∨ R.ps.length ≤ j + 1) with h | h
  · have hd := keepR_drop hR h
    refine ⟨.M j, aSetMark (told (R.ps.getD (j + 1) 0)), fun _ => retB ((marksP ((keepL R.rc).drop (j + 1))).bind fun _ => (firstP R.rc).bind fun _ => nilN n), ⟨ho, h⟩, ?_, ?_, by simp [Ph.pos], by simp [Ph.pos]; omega⟩
    · show retB ((marksP ((keepL R.rc).drop j)).bind fun _ => (firstP R.rc).bind fun _ => nilN n) = _
      rw [hd]; rfl
    · rw [hd]; rfl
  · have hd : (keepL R.rc).drop j = [] := by
      rw [keepR hR, List.drop_drop]
      exact List.drop_eq_nil_of_le (by simp; omega)
    refine ⟨.W, aSwapWay (told R.hd) 0 (200 + 10 * (R.hd : Int)) R.nw, fun _ => retB ((Wk.ret ()).bind fun _ => nilN n), ho, ?_, ?_, by simp [Ph.pos]; omega, by simp [Ph.pos]⟩
    · show retB ((firstP R.rc).bind fun _ => nilN n) = _
      rw [firstR hR]; rfl
    · rw [hd]
      show Wk.rest (evR n R.rc) (retB ((firstP R.rc).bind fun _ => nilN n)) [] = _
      rw [firstR hR]; rfl
/-- From one state to a later one: the others, those at their end. -/
theorem rv_later (hA : RvOk A) (hB : RvOk B) {z : H2} (hl : RvLe x z) (i : Nat) :
    (∀ j l, j ≠ i → (rvG A B ep who).P j l (h2W A B ep x) → (rvG A B ep who).P j l (h2W A B ep z) ∧ (rvG A B ep who).m j l (h2W A B ep z) ≤ (rvG A B ep who).m j l (h2W A B ep x)) ∧
    (∀ j v, (rvG A B ep who).D j v (h2W A B ep x) → (rvG A B ep who).D j v (h2W A B ep z)) := by
  have hR : ∀ w, RvOk (rvR A B w) := fun w => by cases w <;> assumption
  refine ⟨fun j l _ ⟨x', p, e, ok, hr, hp⟩ => ⟨⟨z, p, rfl, ?_, hr, hp⟩, Nat.le_refl _⟩, fun j v ⟨x', e, hf⟩ => ⟨z, rfl, ?_⟩⟩
  · have := h2W_inj e; subst this; exact Ph.monoR (hR _) hl p ok
  · have := h2W_inj e
    subst this
    rcases hf with ⟨h1, h2⟩ | ⟨h1, h2⟩
    · exact .inl ⟨h1, by rw [hl.st _ (by omega), h2]⟩
    · exact .inr ⟨h1, by rw [hl.st _ (by omega), h2]⟩
end
end Go.Proofs.Ythkohomogknddaa
