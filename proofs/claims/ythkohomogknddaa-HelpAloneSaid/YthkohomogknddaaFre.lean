/- Nodes that were let go long ago are freed as a thread begins. No program, no condition. -/
import Derived.Test.YthkohomogknddaaScn
import Derived.Test.YthkohomogknddaaNew
namespace Go.Proofs.Ythkohomogknddaa
open Go Go.RowKit
set_option linter.unusedVariables false
set_option linter.unusedSimpArgs false
def frSl (u : Bool) : Sl := ⟨noNd, [], 0, false, 1, u⟩
def rootSl : Sl := ⟨rootNd, [], 0, false, 1, true⟩
def entrySl : Sl := ⟨entryNd, [rootR], 0, false, 1, true⟩
/-- Behind the root and the entry k nodes, of which the first j were freed. -/
def frS (most : Int) (k j : Nat) (f : Int) : Ar := ⟨[rootSl, entrySl] ++ (List.replicate j (frSl false) ++ List.replicate (k - j) (frSl true)), (List.range j).map (· + 2), most, 2 + ((k - j : Nat) : Int), f⟩
def told (i : Nat) : Int := refOf ((2 + i : Nat) : Int) 1
theorem told_ne (i : Nat) (h : i ≤ 1000) : told i ≠ 0 ∧ inR (told i) := by unfold told refOf inR; omega
theorem told_at (i : Nat) (h : i ≤ 1000) : told i % 1099511627776 - 1 = ((2 + i : Nat) : Int) := by unfold told refOf; omega
theorem frS_len {most : Int} {k j : Nat} {f : Int} (h : j ≤ k) : (frS most k j f).slots.length = 2 + k := by simp [frS]; omega
theorem frS_get {most : Int} {k j i : Nat} {f : Int} (h : j ≤ k) (hi : i < k) : (frS most k j f).at (2 + i) = frSl (decide (j ≤ i)) := by
  unfold Ar.at frS
  simp only [List.getD_eq_getElem?_getD]
  rw [List.getElem?_append_right (by simp)]
  simp only [List.length_cons, List.length_nil, Nat.add_sub_cancel_left]
  by_cases hj : i < j
  · rw [List.getElem?_append_left (by simpa using hj)]
    simp [hj, show ¬ j ≤ i from by omega]
  · rw [List.getElem?_append_right (by simp; omega)]
    simp only [List.length_replicate, List.getElem?_replicate]
    rw [if_pos (by omega)]
    simp [show j ≤ i from by omega]
theorem frS_at {most : Int} {k j i : Nat} {f : Int} (h : j ≤ k) (hi : i < k) (hk : k ≤ 1000) : arAt (frS most k j f) (told i) = if j ≤ i then some (2 + i) else none := by
  have hg := frS_get (most := most) (f := f) h hi
  unfold Ar.at at hg
  unfold arAt
  simp only [told_at i (by omega), Int.toNat_natCast, hg]
  by_cases hj : j ≤ i
  · rw [if_pos hj, if_pos]
    refine ⟨by omega, by rw [frS_len h]; omega, by simp [frSl, hj], ?_⟩
    rfl
  · rw [if_neg hj, if_neg]
    rintro ⟨_, _, h3, _⟩
    simp [frSl, hj] at h3
theorem frS_free {most : Int} {k j : Nat} {f : Int} (h : j < k) (hk : k ≤ 1000) : freeAr (told j) (frS most k j f) = (true, frS most k (j + 1) f) := by
  unfold freeAr
  rw [frS_at (Nat.le_of_lt h) h hk, if_pos (Nat.le_refl _)]
  have hg : (frS most k j f).at (2 + j) = frSl true := by rw [frS_get (Nat.le_of_lt h) h]; simp
  simp only [hg]
  unfold frS Ar.put
  simp only [Prod.mk.injEq, Ar.mk.injEq, true_and]
  refine ⟨?_, ?_, ?_⟩
  · rw [List.set_append_right _ _ (by simp), List.set_append_right _ _ (by simp)]
    congr 1
    simp only [List.length_cons, List.length_nil, List.length_replicate]
    rw [show k - j = (k - (j + 1)) + 1 from by omega, List.replicate_succ (n := k - (j + 1)), show 2 + j - (0 + 1 + 1) - j = 0 from by omega, List.set_cons_zero, List.replicate_succ' (n := j)]
    simp [frSl]
  · rw [List.range_succ, List.map_append]; simp; omega
  · refine ⟨?_, trivial⟩; show 2 + ((k - j : Nat) : Int) - 1 = 2 + ((k - (j + 1) : Nat) : Int); omega
theorem frS_gone {most : Int} {k j i : Nat} {f : Int} (h : j ≤ k) (hi : i < j) (hk : k ≤ 1000) : freeAr (told i) (frS most k j f) = (false, frS most k j (f + 1)) := by
  unfold freeAr
  rw [frS_at h (by omega) hk, if_neg (by omega)]
  rfl
theorem frS_alloc {most : Int} {k : Nat} (h : 2 + (k : Int) < most) : allocAr noNd (frS most k 0 0) = ((told k, true), frS most (k + 1) 0 0) := by
  rw [alloc_next noNd (by unfold frS; simp; omega) rfl]
  rw [frS_len (Nat.zero_le k)]
  unfold told frS
  simp only [Prod.mk.injEq, Ar.mk.injEq, true_and, and_true]
  refine ⟨?_, by simp; omega⟩
  simp [List.replicate_succ', newSl, frSl, noNd]
def goneL : Nat → List Int → List (Int × Int)
  | _, [] => []
  | j, a :: r => (told j, a) :: goneL (j + 1) r
theorem goneL_snoc (a : Int) : ∀ (l : List Int) (j : Nat), goneL j (l ++ [a]) = goneL j l ++ [(told (j + l.length), a)]
  | [], j => by simp [goneL]
  | x :: l, j => by
    simp only [List.cons_append, goneL, goneL_snoc a l (j + 1), List.length_cons]
    rw [show j + 1 + l.length = j + (l.length + 1) from by omega]
/-- How many come first that may be freed. -/
def upto (now : Int) : List Int → Nat
  | [] => 0
  | a :: r => if a + 3 ≤ now then 1 + upto now r else 0
theorem upto_le (now : Int) : ∀ l : List Int, upto now l ≤ l.length
  | [] => Nat.le_refl _
  | a :: r => by
    have := upto_le now r
    rw [upto, List.length_cons]
    split <;> omega
theorem runs_pop {now : Int} {sd : List Int} {k : Nat} {most : Int} (hk : k ≤ 1000) (hsd : sd.length = 2) : ∀ (rest : List Int) (j F : Nat) (s : Wd), s.ar = frS most k j 0 → s.ep = ⟨now, sd, [goneL j rest, []]⟩ → j + rest.length = k → rest.length < F →
    ∃ l, Runs ev0 (ones F 0 now) s l () ev0 { s with ar := frS most k (j + upto now rest) 0, ep := ⟨now, sd, [goneL (j + upto now rest) (rest.drop (upto now rest)), []]⟩ } ∧ l.length = upto now rest + 1 ∧ ∀ a ∈ l, inR a
  | [], j, F, s, ha, he, hj, hF => by
    obtain ⟨F, rfl⟩ : ∃ F', F = F' + 1 := ⟨F - 1, by simp at hF; omega⟩
    have ht : takeEp 0 now s.ep = (0, s.ep) := take_empty (fun l hl => by rw [he] at hl; simpa [goneL] using hl)
    have := runs_ones0 (me := 0) (now := now) (s := s) F (by rw [ht]) (by rw [ht])
    refine ⟨[0], ?_, rfl, fun a h => by simp at h; subst h; exact ⟨by omega, by omega⟩⟩
    have e : ({ s with ar := frS most k (j + upto now []) 0, ep := ⟨now, sd, [goneL (j + upto now []) (([] : List Int).drop (upto now [])), []]⟩ } : Wd) = s := by
      cases s
      simp only at ha he
      subst ha he
      rfl
    rw [e]
    exact this
  | a :: r, j, F, s, ha, he, hj, hF => by
    obtain ⟨F, rfl⟩ : ∃ F', F = F' + 1 := ⟨F - 1, by simp at hF; omega⟩
    simp only [List.length_cons] at hj hF
    have hT : isT 0 s.ep.said.length = true := by rw [he]; dsimp only; rw [hsd]; rfl
    by_cases hr : a + 3 ≤ now
    · have hrp : ripe a now = true := by unfold ripe; simp; omega
      have ht : takeEp 0 now s.ep = (told j, { s.ep with limbo := [goneL (j + 1) r, []] }) := by
        unfold takeEp
        rw [if_pos hT, he]
        simp [goneL, hrp]
      have hone : aOne 0 now s = (told j, { s with ar := frS most k (j + 1) 0, ep := ⟨now, sd, [goneL (j + 1) r, []]⟩ }) := by
        unfold aOne
        rw [ht]
        dsimp only
        rw [if_neg (told_ne j (by omega)).1, ha, frS_free (by omega) hk, he]
      obtain ⟨l, h1, h2, h3⟩ := runs_pop hk hsd r (j + 1) F { s with ar := frS most k (j + 1) 0, ep := ⟨now, sd, [goneL (j + 1) r, []]⟩ } rfl rfl (by omega) (by omega)
      have hu : upto now (a :: r) = 1 + upto now r := by rw [upto, if_pos hr]
      refine ⟨told j :: l, ?_, by rw [List.length_cons, h2, hu]; omega, fun x hx => ?_⟩
      · unfold ones
        refine Runs.ask1 (tame_one 0 now) hone ?_
        rw [if_neg (told_ne j (by omega)).1, hu]
        have e : j + (1 + upto now r) = j + 1 + upto now r := by omega
        rw [e, show 1 + upto now r = upto now r + 1 from by omega, List.drop_succ_cons]
        exact h1
      · rcases List.mem_cons.1 hx with rfl | hx
        · exact (told_ne j (by omega)).2
        · exact h3 x hx
    · have hrp : ripe a now = false := by unfold ripe; simp; omega
      have ht : takeEp 0 now s.ep = (0, s.ep) := by
        unfold takeEp
        rw [if_pos hT]
        have : s.ep.limbo[(0 : Int).toNat]? = some ((told j, a) :: goneL (j + 1) r) := by rw [he]; rfl
        rw [this]
        simp [hrp]
      have := runs_ones0 (me := 0) (now := now) (s := s) F (by rw [ht]) (by rw [ht])
      have hu : upto now (a :: r) = 0 := by rw [upto, if_neg hr]
      refine ⟨[0], ?_, by rw [hu]; rfl, fun a h => by simp at h; subst h; exact ⟨by omega, by omega⟩⟩
      have e : ({ s with ar := frS most k (j + upto now (a :: r)) 0, ep := ⟨now, sd, [goneL (j + upto now (a :: r)) ((a :: r).drop (upto now (a :: r))), []]⟩ } : Wd) = s := by
        rw [hu]
        cases s
        simp only at ha he
        subst ha he
        rfl
      rw [e]
      exact this
theorem upto_lt (now : Int) : ∀ (l : List Int) (f : Nat), f < upto now l → ∃ a, l[f]? = some a ∧ a + 3 ≤ now
  | [], f, h => by simp [upto] at h
  | a :: r, f, h => by
    rw [upto] at h
    split at h
    · cases f with
      | zero => exact ⟨a, rfl, by assumption⟩
      | succ f => exact upto_lt now r f (by omega)
    · omega
theorem upto_stop (now : Int) : ∀ (l : List Int), upto now l < l.length → ∃ a, l[upto now l]? = some a ∧ ¬ a + 3 ≤ now
  | [], h => by simp at h
  | a :: r, h => by
    rw [upto] at h ⊢
    by_cases hr : a + 3 ≤ now
    · rw [if_pos hr] at h ⊢
      obtain ⟨b, h1, h2⟩ := upto_stop now r (by simp at h; omega)
      refine ⟨b, ?_, h2⟩
      rw [show 1 + upto now r = upto now r + 1 from by omega, List.getElem?_cons_succ]
      exact h1
    · rw [if_neg hr]
      exact ⟨a, rfl, hr⟩
end Go.Proofs.Ythkohomogknddaa
