/- Any helpers of one record: each touch keeps the plain law. No program. -/
import Derived.Test.YthkohomogknddaaHmy
namespace Go.Proofs.Ythkohomogknddaa
open Go Go.RowKit
set_option linter.unusedVariables false
set_option linter.unusedSimpArgs false
set_option maxRecDepth 100000
theorem move_of {g : Game} {i : Nat} {log : List Int} {s : Wd} {p : Wk (List Int)} {E : Ev} {f : Wd → Int × Wd} {k : Int → Wk (List Int)} (h : p.rest E log = .ask f k) (hE : E.is s) (hF : E.is (f s).2) (ht : Tame f) (hh : g.H ⟨log, 0, false, s⟩) (hI : g.I (f s).2)
    (next : (∃ v, (k (f s).1).rest E [] = .ret v ∧ g.D i v (f s).2 ∧ v.length ≤ 1000000) ∨ (∃ f' k', (k (f s).1).rest E [] = .ask f' k' ∧ (p.rest E (log ++ [(f s).1]) = .ask f' k' → g.P i (log ++ [(f s).1]) (f s).2 ∧ g.m i (log ++ [(f s).1]) (f s).2 < g.m i log s)))
    (oth : ∀ j l, j ≠ i → g.P j l s → g.P j l (f s).2 ∧ g.m j l (f s).2 ≤ g.m j l s) (fin : ∀ j v, g.D j v s → g.D j v (f s).2) : g.Move i log s (p.run ⟨log, 0, false, s⟩) := by
  rcases next with ⟨v, hv, hd, hvl⟩ | ⟨f', k', hv, hp⟩
  · rw [Wk.run_step hE hF h (by rw [hv]; simp), hv]
    exact ⟨by simp, hh, hI, fun N ok => ht.1 N s ok, by simp, (fun e => by cases e), (fun u e => by injection e with e; subst e; exact ⟨hd, hvl⟩), oth, fin⟩
  · have hs := hp ((Wk.rest_snoc (Ev.le_refl E) p log (f s).1 h).trans hv)
    rw [Wk.run_step hE hF h (by rw [hv]; simp), hv]
    exact ⟨by simp, hh, hI, fun N ok => ht.1 N s ok, by simp, (fun _ => hs), (fun u e => by cases e), oth, fin⟩
theorem zip_drop {k i : Nat} (h : i < k) : ((tolds k).zip (List.replicate k (0 : Int))).drop i = (told i, 0) :: ((tolds k).zip (List.replicate k 0)).drop (i + 1) := by
  rw [List.drop_eq_getElem_cons (by simp [tolds_len]; exact h)]
  congr 1
  simp [List.getElem_zip, tolds]
theorem zip_end (k : Nat) : ((tolds k).zip (List.replicate k (0 : Int))).drop k = [] := List.drop_eq_nil_of_le (by simp [tolds_len])
/-- The bounds of a game of helpers. -/
structure MyOk (k : Nat) (keep : Int) (q : Nat) (i0 : Nat → Int) : Prop where
  k1 : 1 ≤ k
  k4 : k ≤ 4
  kp : 0 ≤ keep
  qk : q ≤ k
  lo : ∀ i, i < q → i0 i = 0
  at' : q < k → i0 q = 33
  all : ∀ i, i0 i = 0 ∨ i0 i = 33
section
variable {k : Nat} {keep : Int} {q : Nat} {i0 : Nat → Int} {ep : Ep} {σ : Int} {x : Hs}
theorem my_get (hv : HsInv k keep q i0 x) {i : Nat} (h : i < k) : ∃ y, x.L[i]? = some y := ⟨_, List.getElem?_eq_getElem (by rw [hv.len]; exact h)⟩
theorem my_all (hk : MyOk k keep q i0) (hv : HsInv k keep q i0 x) (ho : Own x k) : q = k := by
  rcases (by have := hk.qk; omega : q < k ∨ q = k) with h | h
  · obtain ⟨y, hy⟩ := my_get hv h
    have h1 := ho q y hy h
    rcases hv.inf q y hy with h2 | h2
    · omega
    · rw [hk.at' h] at h2; omega
  · exact h
/-- What comes behind i nodes. -/
theorem my_after (hk : MyOk k keep q i0) (hv : HsInv k keep q i0 x) {i : Nat} (hi : i ≤ k) (ho : Own x i) : ∃ (p : Ph) (f : Wd → Int × Wd) (kk : Int → Wk (List Int)), p.ok k keep q x ∧ p.prog k keep = .ask f kk ∧ (wrapP k keep (infosP 1 (((tolds k).zip (List.replicate k 0)).drop i))).rest (evR 1 (myR k keep)) [] = .ask f kk ∧ 2 * i ≤ p.pos ∧ p.pos ≤ 17 := by
  have h4 := hk.k4
  rcases (by omega : i < k ∨ i = k) with h | h
  · refine ⟨.A i, aSwapInfo (told i) 0 1, fun a => ((inf1 1 (told i) (infosP 1 (((tolds k).zip (List.replicate k 0)).drop (i + 1))) a).bind (moreP 1 (myR k keep))).bind fun b => .ret [bit b], ⟨h, ho⟩, ?_, ?_, by simp [Ph.pos], by simp [Ph.pos]; omega⟩
    · show wrapP k keep (infosP 1 (((tolds k).zip (List.replicate k 0)).drop i)) = _
      rw [zip_drop h]; rfl
    · rw [zip_drop h]; rfl
  · subst h
    refine ⟨.S, _, _, ⟨my_all hk hv ho, ho⟩, rfl, ?_, by simp [Ph.pos]; omega, by simp [Ph.pos]⟩
    rw [zip_end]; rfl
theorem keepL_my (hk : MyOk k keep q i0) : keepL (myR k keep) = (tolds k).drop (min keep k).toNat := by
  unfold keepL myR
  dsimp only
  rw [tolds_len]
/-- What comes behind j marks. -/
theorem my_marks (hk : MyOk k keep q i0) {j : Nat} (hj : j ≤ 4) (hq : q = k) (hal : x.al = true) (hm : Marked keep x (keep + j)) : ∃ (p : Ph) (f : Wd → Int × Wd) (kk : Int → Wk (List Int)), p.ok k keep q x ∧ p.prog k keep = .ask f kk ∧
    (((marksP ((keepL (myR k keep)).drop j)).bind fun _ => (firstP (myR k keep)).bind fun _ => nil0).bind fun b => .ret [bit b] : Wk (List Int)).rest (evR 1 (myR k keep)) [] = .ask f kk ∧ 11 + j ≤ p.pos ∧ p.pos ≤ 17 := by
  have h4 := hk.k4
  have h1 := hk.k1
  have hkp := hk.kp
  rcases (by omega : keep + j < k ∨ k ≤ keep + j) with h | h
  · have hd : (keepL (myR k keep)).drop j = told (keep.toNat + j) :: (keepL (myR k keep)).drop (j + 1) := by
      rw [keepL_my hk, List.drop_drop, List.drop_drop, show (min keep (k : Int)).toNat = keep.toNat by omega]
      rw [List.drop_eq_getElem_cons (by simp [tolds_len]; omega)]
      congr 1
      simp [tolds]
    refine ⟨.M j, aSetMark (told (keep.toNat + j)), fun _ => ((marksP ((keepL (myR k keep)).drop (j + 1))).bind fun _ => (firstP (myR k keep)).bind fun _ => nil0).bind fun b => .ret [bit b], ⟨hq, hal, h, hm⟩, ?_, ?_, by simp [Ph.pos], by simp [Ph.pos]; omega⟩
    · show ((marksP ((keepL (myR k keep)).drop j)).bind fun _ => (firstP (myR k keep)).bind fun _ => nil0).bind (fun b => (.ret [bit b] : Wk (List Int))) = _
      rw [hd]; rfl
    · rw [hd]; rfl
  · have hd : (keepL (myR k keep)).drop j = [] := by
      rw [keepL_my hk, List.drop_drop]
      exact List.drop_eq_nil_of_le (by simp [tolds_len]; omega)
    have hf : firstP (myR k keep) = .ask (aSwapWay (told 0) 1 201 99) fun _ => .ret () := by
      unfold firstP myR
      dsimp only
      obtain ⟨n, rfl⟩ : ∃ n, k = n + 1 := ⟨k - 1, by omega⟩
      have : tolds (n + 1) = told 0 :: (List.range n).map (fun i => told (i + 1)) := by
        unfold tolds
        rw [List.range_succ_eq_map]
        simp [Function.comp_def]
      rw [this]
    refine ⟨.W, aSwapWay (told 0) 1 201 99, fun _ => ((Wk.ret ()).bind fun _ => nil0).bind fun b => .ret [bit b], ⟨hq, hal, fun i y hy h1 h2 => hm i y hy h1 (by omega)⟩, ?_, ?_, by simp [Ph.pos]; omega, by simp [Ph.pos]⟩
    · show ((firstP (myR k keep)).bind fun _ => nil0).bind (fun b => (.ret [bit b] : Wk (List Int))) = _
      rw [hf]; rfl
    · rw [hd]
      show Wk.rest (evR 1 (myR k keep)) (((firstP (myR k keep)).bind fun _ => nil0).bind (fun b => (.ret [bit b] : Wk (List Int)))) [] = _
      rw [hf]; rfl
/-- A node set: the invariant stays. -/
theorem inv_set (hv : HsInv k keep q i0 x) {i : Nat} {y v : Nk} (hy : x.L[i]? = some y) (h1 : (v.inf = 1 ∧ i < q) ∨ v.inf = i0 i) (h2 : i = 0 → v.a = 200 ∧ (v.b = 201 ∨ v.b = 99)) (h3 : v.mrk = true → keep ≤ (i : Int)) (h4 : q < k → v.mrk = false ∧ (i = 0 → v.b = 201)) : HsInv k keep q i0 { x with L := x.L.set i v } := by
  have hi := (List.getElem?_eq_some_iff.1 hy).1
  have key : ∀ (j : Nat) (u : Nk), (x.L.set i v)[j]? = some u → (j = i ∧ u = v) ∨ (j ≠ i ∧ x.L[j]? = some u) := fun j u hu => by
    by_cases hj : i = j
    · subst hj
      rw [List.getElem?_set_self hi] at hu
      injection hu with hu
      exact .inl ⟨rfl, hu.symm⟩
    · rw [List.getElem?_set_ne hj] at hu
      exact .inr ⟨Ne.symm hj, hu⟩
  refine ⟨by dsimp only; rw [List.length_set]; exact hv.len, fun j u hu => ?_, fun u hu => ?_, fun j u hu => ?_, fun hq => ⟨(hv.bad hq).1, (hv.bad hq).2.1, fun j u hu => ?_⟩, hv.good⟩
  · rcases key j u hu with ⟨rfl, rfl⟩ | ⟨_, h⟩
    · exact h1
    · exact hv.inf j u h
  · rcases key 0 u hu with ⟨e, rfl⟩ | ⟨_, h⟩
    · exact h2 e.symm
    · exact hv.way u h
  · rcases key j u hu with ⟨rfl, rfl⟩ | ⟨_, h⟩
    · exact h3
    · exact hv.mrk j u h
  · rcases key j u hu with ⟨rfl, rfl⟩ | ⟨_, h⟩
    · exact h4 hq
    · exact (hv.bad hq).2.2 j u h
theorem inv_old (hv : HsInv k keep q i0 x) {i : Nat} {y : Nk} (hy : x.L[i]? = some y) : ((y.inf = 1 ∧ i < q) ∨ y.inf = i0 i) ∧ (i = 0 → y.a = 200 ∧ (y.b = 201 ∨ y.b = 99)) ∧ (y.mrk = true → keep ≤ (i : Int)) ∧ (q < k → y.mrk = false ∧ (i = 0 → y.b = 201)) :=
  ⟨hv.inf i y hy, fun e => hv.way y (e ▸ hy), hv.mrk i y hy, fun hq => (hv.bad hq).2.2 i y hy⟩
theorem set_own {i n : Nat} {v : Nk} (ho : Own x i) (hn : n ≤ i + 1) (hv : v.inf = 1) : Own { x with L := x.L.set i v } n := fun j u hu hj => by
  dsimp only at hu
  by_cases hij : i = j
  · subst hij
    have hi : i < x.L.length := by have := (List.getElem?_eq_some_iff.1 hu).1; simpa using this
    rw [List.getElem?_set_self hi] at hu
    injection hu with hu
    rw [← hu]; exact hv
  · rw [List.getElem?_set_ne hij] at hu
    exact ho j u hu (by omega)
/-- From one state to a later one: the others, those at their end. -/
theorem my_later {z : Hs} (hl : HsLe x z) (he : z.L.length = x.L.length) (i : Nat) :
    (∀ j l, j ≠ i → (myG k keep q i0 ep σ).P j l (hsW k keep ep x) → (myG k keep q i0 ep σ).P j l (hsW k keep ep z) ∧ (myG k keep q i0 ep σ).m j l (hsW k keep ep z) ≤ (myG k keep q i0 ep σ).m j l (hsW k keep ep x)) ∧
    (∀ j v, (myG k keep q i0 ep σ).D j v (hsW k keep ep x) → (myG k keep q i0 ep σ).D j v (hsW k keep ep z)) := by
  refine ⟨fun j l _ ⟨x', p, e, ok, hr, hp⟩ => ⟨⟨z, p, rfl, ?_, hr, hp⟩, Nat.le_refl _⟩, fun j v ⟨x', e, hf⟩ => ⟨z, rfl, ?_⟩⟩
  · have := hsW_inj e; subst this; exact Ph.mono hl he p ok
  · have := hsW_inj e; subst this; exact Fin.mono hl he hf
end
set_option maxHeartbeats 2000000 in
theorem my_plays {k : Nat} {keep : Int} {q : Nat} {i0 : Nat → Int} {ep : Ep} {σ : Int} (hk : MyOk k keep q i0) (ws : List Wkr) (hp : ∀ (i : Nat) (x : Wkr), ws[i]? = some x → x.p = helperP 1) : (myG k keep q i0 ep σ).plays ws := by
  intro i0' wk log s hw hI hP
  rw [hp i0' wk hw]
  obtain ⟨x, rfl, hv, hσ⟩ := hI
  obtain ⟨x', p, e, ok, hr, hl⟩ := hP
  have e := hsW_inj e
  subst e
  have hE : (evR 1 (myR k keep)).is (hsW k keep ep x) := evR_is.2 rfl
  have hxl : x.L.length ≤ 1000 := by rw [hv.len]; have := hk.k4; omega
  have h4 := hk.k4
  have h1 := hk.k1
  -- a touch that leaves all as it is, on to p'
  cases p with
  | A i =>
    obtain ⟨hi, ho⟩ := ok
    obtain ⟨y, hy⟩ := my_get hv hi
    have hr' : (helperP 1).rest (evR 1 (myR k keep)) log = .ask (aSwapInfo (told i) 0 1) (fun a => ((inf1 1 (told i) (infosP 1 (((tolds k).zip (List.replicate k 0)).drop (i + 1))) a).bind (moreP 1 (myR k keep))).bind fun b => .ret [bit b]) := by
      rw [hr]; show wrapP k keep (infosP 1 (((tolds k).zip (List.replicate k 0)).drop i)) = _; rw [zip_drop hi]; rfl
    have hs := hs_swap (k := k) (keep := keep) (ep := ep) hy hxl
    by_cases h0 : y.inf = 0
    · rw [if_pos h0] at hs
      have hq : i < q := by
        rcases hv.inf i y hy with h | h
        · exact h.2
        · rcases (by omega : i < q ∨ i = q ∨ q < i) with h5 | h5 | h5
          · exact h5
          · subst h5; have := hk.at' hi; omega
          · obtain ⟨u, hu⟩ := my_get hv (i := q) (by omega)
            have hu1 := ho q u hu h5
            rcases hv.inf q u hu with h6 | h6
            · omega
            · rw [hk.at' (by omega)] at h6; omega
      have o := inv_old hv hy
      have hv' := inv_set hv (v := { y with inf := 1 }) hy (.inl ⟨rfl, hq⟩) o.2.1 o.2.2.1 o.2.2.2
      have hle : HsLe x { x with L := x.L.set i { y with inf := 1 } } := HsLe.set hy (fun _ => rfl) (fun _ => by simp) id id
      obtain ⟨p', f', k', ok', hpp, hrest, hpos, hp17⟩ := my_after hk hv' (i := i + 1) (by omega) (set_own ho (Nat.le_refl _) rfl)
      have lat := my_later (k := k) (keep := keep) (q := q) (i0 := i0) (ep := ep) (σ := σ) hle (by simp) i0'
      refine move_of hr' hE (by rw [hs]; exact evR_is.2 rfl) (tame_swapInfo _ _ _) trivial (by rw [hs]; exact ⟨_, rfl, hv', hσ⟩) (.inr ⟨f', k', ?_, ?_⟩) (by rw [hs]; exact lat.1) (by rw [hs]; exact lat.2)
      · try rw [hs]
        exact hrest
      · rw [hs]
        intro h9
        simp only [Ph.pos] at hl
        exact ⟨⟨_, p', rfl, ok', h9.trans hpp.symm, by simp; omega⟩, by show 40 - (log ++ [_]).length < 40 - log.length; simp; omega⟩
    · rw [if_neg h0] at hs
      have lat := my_later (k := k) (keep := keep) (q := q) (i0 := i0) (ep := ep) (σ := σ) (HsLe.refl x) rfl i0'
      refine move_of hr' hE (by rw [hs]; exact hE) (tame_swapInfo _ _ _) trivial (by rw [hs]; exact ⟨_, rfl, hv, hσ⟩) (.inr ⟨aInfo (told i), fun b => ((inf2 1 (infosP 1 (((tolds k).zip (List.replicate k 0)).drop (i + 1))) b).bind (moreP 1 (myR k keep))).bind fun b => .ret [bit b], ?_, ?_⟩) (by rw [hs]; exact lat.1) (by rw [hs]; exact lat.2)
      · try rw [hs]
        rfl
      · rw [hs]
        intro h9
        simp only [Ph.pos] at hl
        exact ⟨⟨x, .B i, rfl, ⟨hi, ho, fun u hu => by rw [hy] at hu; injection hu with hu; rw [← hu]; exact h0⟩, h9, by simp [Ph.pos]; omega⟩, by show 40 - (log ++ [_]).length < 40 - log.length; simp; omega⟩
  | B i =>
    obtain ⟨hi, ho, hne⟩ := ok
    obtain ⟨y, hy⟩ := my_get hv hi
    have hr' : (helperP 1).rest (evR 1 (myR k keep)) log = .ask (aInfo (told i)) (fun b => ((inf2 1 (infosP 1 (((tolds k).zip (List.replicate k 0)).drop (i + 1))) b).bind (moreP 1 (myR k keep))).bind fun b => .ret [bit b]) := hr
    have hs := hs_info (k := k) (keep := keep) (ep := ep) hy hxl
    have lat := my_later (k := k) (keep := keep) (q := q) (i0 := i0) (ep := ep) (σ := σ) (HsLe.refl x) rfl i0'
    by_cases h0 : y.inf = 1
    · rw [h0] at hs
      have ho' : Own x (i + 1) := fun j u hu hj => by
        rcases (by omega : j < i ∨ j = i) with h | rfl
        · exact ho j u hu h
        · rw [hy] at hu; injection hu with hu; rw [← hu]; exact h0
      obtain ⟨p', f', k', ok', hpp, hrest, hpos, hp17⟩ := my_after hk hv (i := i + 1) (by omega) ho'
      refine move_of hr' hE (by rw [hs]; exact hE) (tame_info _) trivial (by rw [hs]; exact ⟨_, rfl, hv, hσ⟩) (.inr ⟨f', k', ?_, ?_⟩) (by rw [hs]; exact lat.1) (by rw [hs]; exact lat.2)
      · try rw [hs]
        exact hrest
      · rw [hs]
        intro h9
        simp only [Ph.pos] at hl
        exact ⟨⟨_, p', rfl, ok', h9.trans hpp.symm, by simp; omega⟩, by show 40 - (log ++ [_]).length < 40 - log.length; simp; omega⟩
    · have hqk : q < k := by
        have h2 := hne y hy
        rcases hv.inf i y hy with h | h
        · exact absurd h.1 h0
        · rcases (by have := hk.qk; omega : q < k ∨ q = k) with h5 | h5
          · exact h5
          · exact absurd (h.trans (hk.lo i (by omega))) h2
      refine move_of hr' hE (by rw [hs]; exact hE) (tame_info _) trivial (by rw [hs]; exact ⟨_, rfl, hv, hσ⟩) (.inr ⟨aAll 1, fun d => ((inf3 1 d).bind (moreP 1 (myR k keep))).bind fun b => .ret [bit b], ?_, ?_⟩) (by rw [hs]; exact lat.1) (by rw [hs]; exact lat.2)
      · rw [hs]
        show (((inf2 1 _ y.inf).bind (moreP 1 (myR k keep))).bind fun b => (.ret [bit b] : Wk (List Int))).rest _ [] = _
        unfold inf2
        rw [if_neg h0]; rfl
      · rw [hs]
        intro h9
        simp only [Ph.pos] at hl
        exact ⟨⟨x, .C, rfl, hqk, h9, by simp [Ph.pos]; omega⟩, by show 40 - (log ++ [_]).length < 40 - log.length; simp; omega⟩
  | C =>
    have hqk : q < k := ok
    have hr' : (helperP 1).rest (evR 1 (myR k keep)) log = .ask (aAll 1) (fun d => ((inf3 1 d).bind (moreP 1 (myR k keep))).bind fun b => .ret [bit b]) := hr
    have hs : aAll 1 (hsW k keep ep x) = (0, hsW k keep ep x) := by rw [hs_all, (hv.bad hqk).1]; rfl
    have lat := my_later (k := k) (keep := keep) (q := q) (i0 := i0) (ep := ep) (σ := σ) (HsLe.refl x) rfl i0'
    refine move_of hr' hE (by rw [hs]; exact hE) (tame_all _) trivial (by rw [hs]; exact ⟨_, rfl, hv, hσ⟩) (.inr ⟨aSet 1 0, fun _ => ((Wk.ret (some false)).bind (moreP 1 (myR k keep))).bind fun b => .ret [bit b], ?_, ?_⟩) (by rw [hs]; exact lat.1) (by rw [hs]; exact lat.2)
    · try rw [hs]
      rfl
    · rw [hs]
      intro h9
      simp only [Ph.pos] at hl
      exact ⟨⟨x, .E, rfl, hqk, h9, by simp [Ph.pos]; omega⟩, by show 40 - (log ++ [_]).length < 40 - log.length; simp; omega⟩
  | E =>
    have hqk : q < k := ok
    have hr' : (helperP 1).rest (evR 1 (myR k keep)) log = .ask (aSet 1 0) (fun _ => ((Wk.ret (some false)).bind (moreP 1 (myR k keep))).bind fun b => .ret [bit b]) := hr
    have hs := hs_set (k := k) (keep := keep) (ep := ep) (x := x) 0
    have hst := (hv.bad hqk).2.1
    have hle : HsLe x { x with st := 0 } := ⟨fun i y h => ⟨y, h, id, id, id, id⟩, id, fun h => by show (0 : Int) = x.st; omega⟩
    have lat := my_later (k := k) (keep := keep) (q := q) (i0 := i0) (ep := ep) (σ := σ) hle rfl i0'
    refine move_of hr' hE (by rw [hs]; exact evR_is.2 rfl) (tame_set _ _) trivial (by rw [hs]; exact ⟨_, rfl, ⟨hv.len, hv.inf, hv.way, hv.mrk, fun h => ⟨(hv.bad h).1, .inl rfl, (hv.bad h).2.2⟩, fun h => by omega⟩, fun h => by have := hσ h; show (0 : Int) = σ; omega⟩) (.inl ⟨[0], ?_, ?_, by simp⟩) (by rw [hs]; exact lat.1) (by rw [hs]; exact lat.2)
    · try rw [hs]
      rfl
    · rw [hs]
      exact ⟨_, rfl, by rw [decide_eq_false (by omega)]; rfl, fun _ => rfl, fun h => by omega⟩
  | S =>
    obtain ⟨hq, ho⟩ := ok
    have hr' : (helperP 1).rest (evR 1 (myR k keep)) log = .ask (aSetAll 1) (fun _ => ((marksP ((keepL (myR k keep)).drop 0)).bind fun _ => (firstP (myR k keep)).bind fun _ => nil0).bind fun b => .ret [bit b]) := hr
    have hs := hs_setAll (k := k) (keep := keep) (ep := ep) (x := x)
    have hle : HsLe x { x with al := true } := ⟨fun i y h => ⟨y, h, id, id, id, id⟩, fun _ => rfl, fun h => rfl⟩
    have lat := my_later (k := k) (keep := keep) (q := q) (i0 := i0) (ep := ep) (σ := σ) hle rfl i0'
    obtain ⟨p', f', k', ok', hpp, hrest, hpos, hp17⟩ := my_marks (x := { x with al := true }) hk (j := 0) (by omega) hq rfl (fun i y _ h1 h2 => by omega)
    refine move_of hr' hE (by rw [hs]; exact evR_is.2 rfl) (tame_setAll _) trivial (by rw [hs]; exact ⟨_, rfl, ⟨hv.len, hv.inf, hv.way, hv.mrk, fun h => by omega, hv.good⟩, hσ⟩) (.inr ⟨f', k', ?_, ?_⟩) (by rw [hs]; exact lat.1) (by rw [hs]; exact lat.2)
    · try rw [hs]
      exact hrest
    · rw [hs]
      intro h9
      simp only [Ph.pos] at hl
      exact ⟨⟨_, p', rfl, ok', h9.trans hpp.symm, by simp; omega⟩, by show 40 - (log ++ [_]).length < 40 - log.length; simp; omega⟩
  | M j =>
    obtain ⟨hq, hal, hj, hm⟩ := ok
    have hkp := hk.kp
    obtain ⟨y, hy⟩ := my_get hv (i := keep.toNat + j) (by omega)
    have hd : (keepL (myR k keep)).drop j = told (keep.toNat + j) :: (keepL (myR k keep)).drop (j + 1) := by
      rw [keepL_my hk, List.drop_drop, List.drop_drop, show (min keep (k : Int)).toNat = keep.toNat by omega]
      rw [List.drop_eq_getElem_cons (by simp [tolds_len]; omega)]
      congr 1
      simp [tolds]
    have hr' : (helperP 1).rest (evR 1 (myR k keep)) log = .ask (aSetMark (told (keep.toNat + j))) (fun _ => ((marksP ((keepL (myR k keep)).drop (j + 1))).bind fun _ => (firstP (myR k keep)).bind fun _ => nil0).bind fun b => .ret [bit b]) := by
      rw [hr]; show ((marksP ((keepL (myR k keep)).drop j)).bind fun _ => (firstP (myR k keep)).bind fun _ => nil0).bind (fun b => (.ret [bit b] : Wk (List Int))) = _; rw [hd]; rfl
    have hs := hs_mark (k := k) (keep := keep) (ep := ep) hy hxl
    have o := inv_old hv hy
    have hv' := inv_set hv (v := { y with mrk := true }) hy o.1 o.2.1 (fun _ => by omega) (fun h => by omega)
    have hle : HsLe x { x with L := x.L.set (keep.toNat + j) { y with mrk := true } } := HsLe.set hy id id (fun _ => rfl) id
    have lat := my_later (k := k) (keep := keep) (q := q) (i0 := i0) (ep := ep) (σ := σ) hle (by simp) i0'
    obtain ⟨p', f', k', ok', hpp, hrest, hpos, hp17⟩ := my_marks (x := { x with L := x.L.set (keep.toNat + j) { y with mrk := true } }) hk (j := j + 1) (by omega) hq hal (fun a u hu h1 h2 => by
      dsimp only at hu
      by_cases hij : keep.toNat + j = a
      · subst hij
        rw [List.getElem?_set_self (List.getElem?_eq_some_iff.1 hy).1] at hu
        injection hu with hu
        rw [← hu]
      · rw [List.getElem?_set_ne hij] at hu
        exact hm a u hu h1 (by omega))
    refine move_of hr' hE (by rw [hs]; exact evR_is.2 rfl) (tame_setMark _) trivial (by rw [hs]; exact ⟨_, rfl, hv', hσ⟩) (.inr ⟨f', k', ?_, ?_⟩) (by rw [hs]; exact lat.1) (by rw [hs]; exact lat.2)
    · try rw [hs]
      exact hrest
    · rw [hs]
      intro h9
      simp only [Ph.pos] at hl
      exact ⟨⟨_, p', rfl, ok', h9.trans hpp.symm, by simp; omega⟩, by show 40 - (log ++ [_]).length < 40 - log.length; simp; omega⟩
  | W =>
    obtain ⟨hq, hal, hm⟩ := ok
    obtain ⟨y, hy⟩ := my_get hv (i := 0) (by omega)
    have hf : firstP (myR k keep) = .ask (aSwapWay (told 0) 1 201 99) fun _ => .ret () := by
      unfold firstP myR
      dsimp only
      obtain ⟨n, rfl⟩ : ∃ n, k = n + 1 := ⟨k - 1, by omega⟩
      have : tolds (n + 1) = told 0 :: (List.range n).map (fun i => told (i + 1)) := by
        unfold tolds
        rw [List.range_succ_eq_map]
        simp [Function.comp_def]
      rw [this]
    have hr' : (helperP 1).rest (evR 1 (myR k keep)) log = .ask (aSwapWay (told 0) 1 201 99) (fun _ => ((Wk.ret ()).bind fun _ => nil0).bind fun b => .ret [bit b]) := by
      rw [hr]; show ((firstP (myR k keep)).bind fun _ => nil0).bind (fun b => (.ret [bit b] : Wk (List Int))) = _; rw [hf]; rfl
    have hs := hs_way (k := k) (keep := keep) (ep := ep) hy hxl
    have o := inv_old hv hy
    by_cases hb : y.b = 201
    · rw [if_pos hb] at hs
      have hv' := inv_set hv (v := { y with b := 99 }) hy o.1 (fun _ => ⟨(o.2.1 rfl).1, .inr rfl⟩) o.2.2.1 (fun h => by omega)
      have hle : HsLe x { x with L := x.L.set 0 { y with b := 99 } } := HsLe.set hy id id id (fun _ => rfl)
      have lat := my_later (k := k) (keep := keep) (q := q) (i0 := i0) (ep := ep) (σ := σ) hle (by simp) i0'
      refine move_of hr' hE (by rw [hs]; exact evR_is.2 rfl) (tame_swapWay _ _ _ _) trivial (by rw [hs]; exact ⟨_, rfl, hv', hσ⟩) (.inr ⟨aSet 1 2, fun _ => (Wk.ret true).bind fun b => .ret [bit b], ?_, ?_⟩) (by rw [hs]; exact lat.1) (by rw [hs]; exact lat.2)
      · try rw [hs]
        rfl
      · rw [hs]
        intro h9
        simp only [Ph.pos] at hl
        refine ⟨⟨_, .F, rfl, ⟨hq, hal, hm.mono hle (by simp), fun u hu => ?_⟩, h9, by simp [Ph.pos]; omega⟩, by show 40 - (log ++ [_]).length < 40 - log.length; simp; omega⟩
        dsimp only at hu
        rw [List.getElem?_set_self (List.getElem?_eq_some_iff.1 hy).1] at hu
        injection hu with hu
        rw [← hu]
    · rw [if_neg hb] at hs
      have lat := my_later (k := k) (keep := keep) (q := q) (i0 := i0) (ep := ep) (σ := σ) (HsLe.refl x) rfl i0'
      refine move_of hr' hE (by rw [hs]; exact hE) (tame_swapWay _ _ _ _) trivial (by rw [hs]; exact ⟨_, rfl, hv, hσ⟩) (.inr ⟨aSet 1 2, fun _ => (Wk.ret true).bind fun b => .ret [bit b], ?_, ?_⟩) (by rw [hs]; exact lat.1) (by rw [hs]; exact lat.2)
      · try rw [hs]
        rfl
      · rw [hs]
        intro h9
        simp only [Ph.pos] at hl
        refine ⟨⟨_, .F, rfl, ⟨hq, hal, hm, fun u hu => ?_⟩, h9, by simp [Ph.pos]; omega⟩, by show 40 - (log ++ [_]).length < 40 - log.length; simp; omega⟩
        rw [hy] at hu
        injection hu with hu
        rw [← hu]
        rcases (o.2.1 rfl).2 with h | h
        · exact absurd h hb
        · exact h
  | F =>
    obtain ⟨hq, hal, hm, hb⟩ := ok
    have hr' : (helperP 1).rest (evR 1 (myR k keep)) log = .ask (aSet 1 2) (fun _ => (Wk.ret true).bind fun b => .ret [bit b]) := hr
    have hs := hs_set (k := k) (keep := keep) (ep := ep) (x := x) 2
    have hst := hv.good hq
    have hle : HsLe x { x with st := 2 } := ⟨fun i y h => ⟨y, h, id, id, id, id⟩, id, fun h => by show (2 : Int) = x.st; omega⟩
    have lat := my_later (k := k) (keep := keep) (q := q) (i0 := i0) (ep := ep) (σ := σ) hle rfl i0'
    refine move_of hr' hE (by rw [hs]; exact evR_is.2 rfl) (tame_set _ _) trivial (by rw [hs]; exact ⟨_, rfl, ⟨hv.len, hv.inf, hv.way, hv.mrk, fun h => by omega, fun _ => .inr rfl⟩, fun h => by have := hσ h; show (2 : Int) = σ; omega⟩) (.inl ⟨[1], ?_, ?_, by simp⟩) (by rw [hs]; exact lat.1) (by rw [hs]; exact lat.2)
    · try rw [hs]
      rfl
    · rw [hs]
      exact ⟨_, rfl, by rw [decide_eq_true hq]; rfl, fun h => by omega, fun _ => ⟨rfl, hq, hal, hm, hb⟩⟩
end Go.Proofs.Ythkohomogknddaa
