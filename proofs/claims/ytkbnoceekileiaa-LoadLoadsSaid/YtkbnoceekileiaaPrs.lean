/- Rows of pairs: whether they rise, whether two are the same; what reads them alone. No condition but that they can be read. -/
import Derived.Test.YtkbnoceekileiaaShp
import Derived.Test.YtkbnoceekileiaaSame
import Derived.Deep.DeepCutAuto
import Derived.Deep.CutRange
namespace Go.Proofs.Ytkbnoceekileiaa
open Go Go.RowKit
set_option linter.unusedVariables false
set_option linter.unusedSimpArgs false
set_option maxRecDepth 100000
def key (ps : List (Int × Int)) (i : Nat) : Int := (ps.getD i (0, 0)).1
def RisesP (ps : List (Int × Int)) : Prop := ∀ i, i + 1 < ps.length → key ps i < key ps (i + 1)
theorem pairC_get2 {ps : List (Int × Int)} {i : Nat} {x : Int × Int} (h : ps[i]? = some x) : (pairC ps)[i * 2]? = some (.int .i64 x.1) ∧ (pairC ps)[i * 2 + 1]? = some (.int .i64 x.2) := by
  have hf : ∀ p : Int × Int, ([Value.int .i64 p.1, Value.int .i64 p.2] : List Value).length = 2 := fun _ => rfl
  have h0 := fm_get (f := fun p : Int × Int => [Value.int .i64 p.1, Value.int .i64 p.2]) hf ps i 0 x h (by omega)
  have h1 := fm_get (f := fun p : Int × Int => [Value.int .i64 p.1, Value.int .i64 p.2]) hf ps i 1 x h (by omega)
  exact ⟨h0, h1⟩
theorem key_is {ps : List (Int × Int)} {i : Nat} {x : Int × Int} (h : ps[i]? = some x) : key ps i = x.1 := by
  unfold key
  rw [List.getD_eq_getElem?_getD, h]
  rfl
theorem RdV.pair {w : World} {a : Addr} {c : Nat} {ps : List (Int × Int)} (R : RdV w (.slice (some a) ps.length c) ps.length 2 (pairC ps)) {i : Nat} {x : Int × Int} (h : ps[i]? = some x) :
    w.cell? (a.add (i * 2)) = some (.int .i64 x.1) ∧ w.cell? ⟨(a.add (i * 2)).block, (a.add (i * 2)).off + 1, none⟩ = some (.int .i64 x.2) := by
  obtain ⟨a', e, _, hat⟩ := R.at (by have := (List.getElem?_eq_some_iff.1 h).1; omega)
  have e : a = a' := by simpa using e
  subst e
  obtain ⟨h0, h1⟩ := pairC_get2 h
  refine ⟨hat _ _ h0, ?_⟩
  have := hat _ _ h1
  rwa [show i * 2 + 1 = i * 2 + (0 + 1) from rfl, add_fieldG] at this
/-- A yes or no is told, of something; only new blocks are written. -/
def RetB (w : World) (P : Prop) (e : Ending) (w' : World) : Prop := ∃ b, e = .returned (.bool b) ∧ (b = true ↔ P) ∧ Fr nob w w'
theorem RetB.of {w w' : World} {P : Prop} {e : Ending} (b : Bool) (he : e = .returned (.bool b)) (h : b = true ↔ P) (f : Fr nob w w') : RetB w P e w' := ⟨b, he, h, f⟩
theorem LRises_calls (v : Value) (ps : List (Int × Int)) (w : World) (R : RdV w v ps.length 2 (pairC ps)) : Calls Try.prog 54 #[v] w (RetB w (RisesP ps)) := by
  have hsh := R.short
  unfold maxLen at hsh
  obtain ⟨a, c, rfl⟩ := R.len
  have HR := Lib.hid R
  clear R
  go_enter Try.func54, Try.ntmps54
  have HF : Hid (Fr nob w w ∧ ∀ j, j < 0 → j + 1 < ps.length → key ps j < key ps (j + 1)) := Lib.hid ⟨Fr.refl _ _, fun j hj => absurd hj (by omega)⟩
  go_wp2_with fail
  go_loopw [7] (fun q wr => ∃ i : Nat, q = .int .i64 (i : Nat) ∧ (i = 0 ∨ i + 1 ≤ ps.length) ∧ Hid (Fr nob w wr ∧ ∀ j, j < i → j + 1 < ps.length → key ps j < key ps (j + 1))) (fun q _ => ps.length - (intOf q).toNat)
  case atStart => exact ⟨0, rfl, .inl rfl, HF⟩
  case round =>
    clear HF
    obtain ⟨i, rfl, hi, HF⟩ := hrel
    by_cases hlt : i + 1 < ps.length
    · obtain ⟨x, hx⟩ : ∃ x, ps[i]? = some x := ⟨_, List.getElem?_eq_getElem (by omega)⟩
      obtain ⟨y, hy⟩ : ∃ x, ps[i + 1]? = some x := ⟨_, List.getElem?_eq_getElem hlt⟩
      have R2 := HR.out.fr HF.out.1 (fun _ _ _ x => x)
      obtain ⟨a1, rfl, _, _⟩ := R2.at (by omega)
      obtain ⟨c0, _⟩ := R2.pair hx
      obtain ⟨c1, _⟩ := R2.pair hy
      have hli : (i : Int) < (ps.length : Int) - 1 := by omega
      have hlj : (i : Int) + 1 < (ps.length : Int) := by omega
      have HX := Lib.hid (And.intro (key_is hx) (key_is hy))
      obtain ⟨x1, x2⟩ := x
      obtain ⟨y1, y2⟩ := y
      dsimp only at c0 c1
      clear R2 hx hy hi
      go_upto_region 4 with fail
      by_cases hxy : x1 < y1
      · have hge : decide (y1 ≤ x1) = false := decide_eq_false (by omega)
        have HXY := Lib.hid hxy
        clear hxy
        go_quiet (fail)
        have HN : Hid (∀ (nq : Nat), Fr nob w (wr.drewN nq) ∧ ∀ j, j < i + 1 → j + 1 < ps.length → key ps j < key ps (j + 1)) := Lib.hid (fun nq => ⟨HF.out.1.drewN nq, fun j hj hj2 => by
          rcases (by omega : j < i ∨ j = i) with h | rfl
          · exact HF.out.2 j h hj2
          · rw [HX.out.1, HX.out.2]; exact HXY.out⟩)
        clear HF
        go_wp2_with fail
        exact ⟨⟨i + 1, by go_num, .inr (by omega), Lib.hid (HN.out _)⟩, by simp [intOf]; omega⟩
      · have hge : decide (y1 ≤ x1) = true := decide_eq_true (by omega)
        have HXY := Lib.hid hxy
        clear hxy
        go_quiet (fail)
        go_wp2_with fail
        go_ret
        refine RetB.of false rfl ⟨fun h => by simp at h, fun h => ?_⟩ (HF.out.1.drewN _)
        have := h i hlt
        rw [HX.out.1, HX.out.2] at this
        have := HXY.out
        omega
    · have hli : ¬ (i : Int) < (ps.length : Int) - 1 := by omega
      have HL := Lib.hid hlt
      clear hlt
      go_wp2_with fail
      go_ret
      exact RetB.of true rfl ⟨fun _ j hj => HF.out.2 j (by have := HL.out; omega) hj, fun _ => rfl⟩ HF.out.1
def putL (l : List (Int × Int)) (k v : Int) : List (Int × Int) := (putG l k v false)
where putG : List (Int × Int) → Int → Int → Bool → List (Int × Int)
  | [], k, v, d => if d = true then [] else [(k, v)]
  | p :: l, k, v, d => (if d = false ∧ k ≤ p.1 then [(k, v)] else []) ++ (if p.1 = k then [] else [p]) ++ putG l k v (d || decide (k ≤ p.1))
def risingL : List Int → Nat → List (Int × Int) → List (Int × Int)
  | [], _, out => out
  | k :: l, i, out => risingL l (i + 1) (putL out k ((i : Int) + 100))
theorem LRisesB_calls (v : Value) (ps : List (Int × Int)) (w : World) (R : RdV w v ps.length 2 (pairC ps)) (b : Bool) (hb : b = true ↔ RisesP ps) : Calls Try.prog 54 #[v] w fun e w' => e = .returned (.bool b) ∧ Fr nob w w' := by
  refine (LRises_calls v ps w R).mono ?_
  rintro e w' ⟨c, rfl, h1, h2⟩
  have : c = b := by rw [Bool.eq_iff_iff, h1, hb]
  subst this
  exact ⟨rfl, h2⟩
end Go.Proofs.Ytkbnoceekileiaa
