/- A load into a fresh world, and one more behind it: their contracts. No condition but that there is room. -/
import Derived.Test.YtkbnoceekileiaaLcm
namespace Go.Proofs.Ytkbnoceekileiaa
open Go Go.RowKit
set_option linter.unusedVariables false
set_option linter.unusedSimpArgs false
set_option maxRecDepth 100000
/-- A world with the even tree of some pairs. -/
structure Lded (c : Wc) (s : Wd) (b : Nat) (ps : List (Int × Int)) (r : Int) : Prop where
  ok : OkN s.ar 1000
  way : wayAr c.entry 0 s.ar = (r, s.ar)
  tree : InAr s.ar (evenSh b ps) r
  used : s.ar.used = 1 + (nodesN ps.length b : Int)
  faults : s.ar.faults = 0
theorem way_two {ar : Ar} {a : Sl} {r : Int} {l : List Sl} (h : ar.slots = a :: ⟨entryNd, [r], 0, false, 1, true⟩ :: l) : wayAr entryR 0 ar = (r, ar) := by
  obtain ⟨e1, e2⟩ := at_entry h rfl rfl
  unfold wayAr
  rw [e1]
  dsimp only
  rw [e2, if_pos ⟨by decide, by simp⟩]
  rfl
theorem look_one {ar : Ar} {l : List Sl} (h : ar.slots = ⟨rootNd, [], 0, false, 1, true⟩ :: l) : lookAr rootR ar = (rootNd, ar) := by
  obtain ⟨e1, e2⟩ := at_root h rfl rfl
  unfold lookAr
  rw [e1]
  dsimp only
  rw [e2]
theorem ldat_fresh {c : Wc} {n : Int} (hn : 2 ≤ n ∧ n ≤ 65536) (hce : c.entry = entryR) : LdAt c (wd0 1 n 9) rootR rootNd 2 :=
  ⟨(ok_new (threads := 1) (records := 9) hn).ar, by decide, by rw [hce]; exact way_two rfl, look_one rfl⟩
theorem loaded {c : Wc} {n : Int} {b : Nat} {ps : List (Int × Int)} (hn : 2 ≤ n ∧ n ≤ 65536) (hce : c.entry = entryR) (hb : 2 ≤ b) (hp : ps ≠ []) (hl : ps.length ≤ 128) :
    Lded c (loadW c (wd0 1 n 9) b rootR ps) b ps ((loadNds b 2 ps).2.getD 0 0) := by
  have hl1 : 1 ≤ ps.length := by
    cases ps with
    | nil => exact absurd rfl hp
    | cons a t => simp
  have hlen := loadNds_len (n0 := 2) (l := ps) hb hl1
  have hbd := nodesN_le (n := ps.length) hb
  have hnd := loadNds_few (n0 := 2) hb (l := ps) (by omega) hl1
  obtain ⟨r, hr⟩ : ∃ r, (loadNds b 2 ps).2.getD 0 0 = r := ⟨_, rfl⟩
  have e := load_fresh (c := c) (t := 1) (n := n) (k := 9) (b := b) (ps := ps) hce
  rw [hr] at e ⊢
  have hfr : OkN (frA n r) 10 := by
    refine ⟨by show 0 ≤ n ∧ n ≤ 65536; omega, by show (-(10 : Nat) : Int) ≤ 1 ∧ (1 : Int) ≤ (10 : Nat); omega, by show 2 ≤ 10; omega, fun s hs => ?_, by show (0 : Int) ≤ 0 ∧ (0 : Int) ≤ (10 : Nat); omega, fun i hi => ?_, by show 1 ≤ _; omega⟩
    · simp [frA] at hs
      rcases hs with rfl | rfl
      · exact ⟨by show 1 ≤ 10; omega, ⟨by simp [rootNd], by simp [rootNd], by simp [rootNd]⟩⟩
      · exact ⟨by show 1 ≤ 10; omega, ⟨by simp [entryNd], by simp [entryNd], by simp [entryNd]⟩⟩
    · simp [frA] at hi
      subst hi
      show 0 < 2
      omega
  refine ⟨?_, ?_, ?_, ?_, ?_⟩
  · rw [e]; exact (hfr.add _ hnd).up (by omega)
  · rw [e]
    rw [hce]
    exact way_two (ar := addAr (frA n r) (loadNds b 2 ps).1) (a := ⟨rootNd, [], 0, false, 1, false⟩) (l := (loadNds b 2 ps).1.map (fun nd => newSl nd 1)) rfl
  · rw [e, ← hr]; exact frA_in hp hb (by omega)
  · rw [e]; show (1 : Int) + ((loadNds b 2 ps).1.length : Int) = _; rw [hlen]
  · rw [e]; rfl
theorem unloaded {c : Wc} {n : Int} {b : Nat} (hn : 2 ≤ n ∧ n ≤ 65536) (hce : c.entry = entryR) : Lded c (wd0 1 n 9) b [] rootR :=
  ⟨(ok_new (threads := 1) (records := 9) hn).ar.up (by decide), by rw [hce]; exact way_two rfl, nil_in n, rfl, rfl⟩
theorem fresh_load {w0 w : World} {c : Wc} {n : Int} {Z : List Piece} {b : Nat} (h : Heap w0 w (wdL c (wd0 1 n 9) ++ Z)) (hce : c.entry = entryR) (hcb : c.b = (b : Int)) (hb : 2 ≤ b ∧ b ≤ 1000000) (v : Value) (ps : List (Int × Int)) (hl : ps.length ≤ 128) (hris : RisesP ps)
    (hR : ∀ z q l, Heap w0 z (l ++ (wdQ c (wd0 1 n 9) q ++ Z)) → RdV z v ps.length 2 (pairC ps)) (hn : 2 + (nodesN ps.length b : Int) ≤ n ∧ n ≤ 65536) :
    ∃ s r, Lded c s b ps r ∧ Calls Try.prog 29 #[.pointer (some ⟨c.wb, 0, none⟩), v] w fun e w' => e = .returned (.int .i64 0) ∧ Heap w0 w' (wdL c s ++ Z) := by
  have hn2 : 2 ≤ n ∧ n ≤ 65536 := by omega
  by_cases hp : ps = []
  · refine ⟨_, _, by rw [hp]; exact unloaded hn2 hce, Load_zero h (ldat_fresh hn2 hce) v ps (by omega) hR hris ⟨rfl, rfl⟩ hp⟩
  · refine ⟨_, _, loaded hn2 hce hb.1 hp hl, Load_yes h (ldat_fresh hn2 hce) v ps (by omega) hR hb hcb hris ⟨rfl, rfl⟩ hp ⟨?_, Nat.le_of_ble_eq_true rfl, rfl⟩⟩
    show ¬ n < 2 + (nodesN ps.length b : Int)
    omega
theorem load_again {w0 w : World} {c : Wc} {s : Wd} {Z : List Piece} {b : Nat} {ps : List (Int × Int)} {r : Int} (h : Heap w0 w (wdL c s ++ Z)) (L : Lded c s b ps r) (hb : 2 ≤ b) (v : Value) (hR : ∀ z q l, Heap w0 z (l ++ (wdQ c s q ++ Z)) → RdV z v 0 2 []) :
    Calls Try.prog 29 #[.pointer (some ⟨c.wb, 0, none⟩), v] w fun e w' => e = .returned (.int .i64 (if ps = [] then 0 else 7)) ∧ Heap w0 w' (wdL c s ++ Z) := by
  have hris : RisesP [] := fun i hi => by simp at hi
  cases hq : evenSh b ps with
  | mk lf tg ps' ks kids =>
    have hin := L.tree
    rw [hq] at hin
    obtain ⟨p, inn, wys, h1, _, h3, _⟩ := hin.look L.ok
    have A : LdAt c s r ⟨inn, tg, ps', ks, wys⟩ 1000 := ⟨L.ok, by decide, L.way, h3⟩
    by_cases hp : ps = []
    · rw [if_pos hp]
      subst hp
      have hq : nilSh = Sh.mk lf tg ps' ks kids := hq
      unfold nilSh at hq
      injection hq with q1 q2 q3 q4 q5
      subst q1 q3
      refine Load_zero h A v [] (by decide) hR hris ⟨?_, rfl⟩ rfl
      cases inn with
      | false => rfl
      | true => simp at h1
    · rw [if_neg hp]
      refine Load_full h A v [] (by decide) hR hris ?_
      have := even_full hb hp
      rw [hq] at this
      simp only [Sh.lf, Sh.ps] at this
      rcases this with h | h
      · left; rw [h] at h1; cases inn with
        | true => rfl
        | false => simp at h1
      · exact .inr h
end Go.Proofs.Ytkbnoceekileiaa
