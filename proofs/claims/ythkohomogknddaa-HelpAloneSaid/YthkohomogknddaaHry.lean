/- Two records that were made of the same time: the game. No program. -/
import Derived.Test.YthkohomogknddaaHrx
namespace Go.Proofs.Ythkohomogknddaa
open Go Go.RowKit
set_option linter.unusedVariables false
set_option linter.unusedSimpArgs false
set_option maxRecDepth 100000
set_option maxHeartbeats 2000000 in
theorem rv_plays {A B : Rv} {ep : Ep} {who : Nat → Bool} (hA : RvOk A) (hB : RvOk B) (ws : List Wkr) (hp : ∀ (i : Nat) (x : Wkr), ws[i]? = some x → x.p = helperP (rvN (who i))) : (rvG A B ep who).plays ws := by
  intro i0' wk log s hw hI hP
  rw [hp i0' wk hw]
  obtain ⟨x, rfl, hv⟩ := hI
  obtain ⟨x', p, e, ok, hr, hl⟩ := hP
  have e := h2W_inj e
  subst e
  have hR : ∀ w, RvOk (rvR A B w) := fun w => by cases w <;> assumption
  generalize hww : who i0' = w at *
  have hE : (evR (rvN w) (rvR A B w).rc).is (h2W A B ep x) := evR_is.2 rv_look
  have hEz : ∀ z, (evR (rvN w) (rvR A B w).rc).is (h2W A B ep z) := fun z => evR_is.2 rv_look
  have hxl : x.L.length ≤ 1000 := by rw [hv.len]; omega
  have hRw := hR w
  have h5 := hRw.l5
  have h1 := hRw.l1
  have latr := rv_later (ep := ep) (who := who) hA hB (RvLe.refl x) i0'
  have getp : ∀ i, i < (rvR A B w).ps.length → (rvR A B w).ps[i]? = some ((rvR A B w).ps.getD i 0) ∧ (rvR A B w).ps.getD i 0 < 5 := fun i hi => by
    have e : (rvR A B w).ps.getD i 0 = (rvR A B w).ps[i] := by simp [List.getD_eq_getElem?_getD, List.getElem?_eq_getElem hi]
    rw [e]
    exact ⟨List.getElem?_eq_getElem hi, hRw.lt _ (List.getElem_mem hi)⟩
  cases p with
  | A i =>
    obtain ⟨hi, ho⟩ := ok
    obtain ⟨hps, hp5⟩ := getp i hi
    obtain ⟨y, hy⟩ := rv_get hv hp5
    have hr' : (helperP (rvN w)).rest (evR (rvN w) (rvR A B w).rc) log = .ask (aSwapInfo (told ((rvR A B w).ps.getD i 0)) 0 (rvN w)) (fun a => retB ((inf1 (rvN w) (told ((rvR A B w).ps.getD i 0)) (infosP (rvN w) ((zipR (rvR A B w)).drop (i + 1))) a).bind (moreP (rvN w) (rvR A B w).rc))) := by
      rw [hr]; show wrapR (rvR A B w) (rvN w) (infosP (rvN w) ((zipR (rvR A B w)).drop i)) = _; rw [zipR_drop hi]; rfl
    have hs := rv_swap (A := A) (B := B) (ep := ep) hy hxl (rvN w)
    by_cases h0 : y.inf = 0
    · rw [if_pos h0] at hs
      have hle : RvLe x { x with L := x.L.set ((rvR A B w).ps.getD i 0) { y with inf := rvN w } } := RvLe.setN hy (fun h => absurd h0 h) (fun _ => rfl)
      have hv' := rv_inv_set hA hB hv (v := { y with inf := rvN w }) hy (fun h => absurd h0 h) (fun _ => rfl) (.inr ⟨w, i, rfl, hps, ho⟩) (.inl rfl)
      have ho' : OwnR (rvR A B w) (rvN w) { x with L := x.L.set ((rvR A B w).ps.getD i 0) { y with inf := rvN w } } (i + 1) := fun j q u hj hq hu => by
        rcases (by omega : j < i ∨ j = i) with h | rfl
        · exact (ho.mono hle) j q u h hq hu
        · rw [hps] at hq
          injection hq with hq
          subst hq
          dsimp only at hu
          rw [List.getElem?_set_self (List.getElem?_eq_some_iff.1 hy).1] at hu
          injection hu with hu
          rw [← hu]
      obtain ⟨p', f', k', ok', hpp, hrest, hpos, hp17⟩ := rv_after hRw (i := i + 1) (by omega) ho'
      have lat := rv_later (ep := ep) (who := who) hA hB hle i0'
      refine move_of hr' hE (by rw [hs]; exact hEz _) (tame_swapInfo _ _ _) trivial (by rw [hs]; exact ⟨_, rfl, hv'⟩) (.inr ⟨f', k', ?_, ?_⟩) (by rw [hs]; exact lat.1) (by rw [hs]; exact lat.2)
      · try rw [hs]
        exact hrest
      · rw [hs]
        intro h9
        simp only [Ph.pos] at hl
        exact ⟨⟨_, p', rfl, by rw [hww]; exact ok', by rw [hww]; exact h9.trans hpp.symm, by simp; omega⟩, by show 40 - (log ++ [_]).length < 40 - log.length; simp; omega⟩
    · rw [if_neg h0] at hs
      refine move_of hr' hE (by rw [hs]; exact hE) (tame_swapInfo _ _ _) trivial (by rw [hs]; exact ⟨_, rfl, hv⟩) (.inr ⟨aInfo (told ((rvR A B w).ps.getD i 0)), fun b => retB ((inf2 (rvN w) (infosP (rvN w) ((zipR (rvR A B w)).drop (i + 1))) b).bind (moreP (rvN w) (rvR A B w).rc)), ?_, ?_⟩) (by rw [hs]; exact latr.1) (by rw [hs]; exact latr.2)
      · try rw [hs]
        show Wk.rest _ (retB ((inf1 (rvN w) _ _ 0).bind _)) [] = _
        unfold inf1
        rw [if_neg (show ¬ (0 : Int) = 1 by decide)]; rfl
      · rw [hs]
        intro h9
        simp only [Ph.pos] at hl
        exact ⟨⟨x, .B i, rfl, by rw [hww]; exact ⟨hi, ho, fun u hu => by rw [hy] at hu; injection hu with hu; rw [← hu]; exact h0⟩, by rw [hww]; exact h9, by simp [Ph.pos]; omega⟩, by show 40 - (log ++ [_]).length < 40 - log.length; simp; omega⟩
  | B i =>
    obtain ⟨hi, ho, hne⟩ := ok
    obtain ⟨hps, hp5⟩ := getp i hi
    obtain ⟨y, hy⟩ := rv_get hv hp5
    have hr' : (helperP (rvN w)).rest (evR (rvN w) (rvR A B w).rc) log = .ask (aInfo (told ((rvR A B w).ps.getD i 0))) (fun b => retB ((inf2 (rvN w) (infosP (rvN w) ((zipR (rvR A B w)).drop (i + 1))) b).bind (moreP (rvN w) (rvR A B w).rc))) := hr
    have hs := rv_info (A := A) (B := B) (ep := ep) hy hxl
    by_cases h0 : y.inf = rvN w
    · rw [h0] at hs
      have ho' : OwnR (rvR A B w) (rvN w) x (i + 1) := fun j q u hj hq hu => by
        rcases (by omega : j < i ∨ j = i) with h | rfl
        · exact ho j q u h hq hu
        · rw [hps] at hq
          injection hq with hq
          subst hq
          rw [hy] at hu; injection hu with hu; rw [← hu]; exact h0
      obtain ⟨p', f', k', ok', hpp, hrest, hpos, hp17⟩ := rv_after hRw (i := i + 1) (by omega) ho'
      refine move_of hr' hE (by rw [hs]; exact hE) (tame_info _) trivial (by rw [hs]; exact ⟨_, rfl, hv⟩) (.inr ⟨f', k', ?_, ?_⟩) (by rw [hs]; exact latr.1) (by rw [hs]; exact latr.2)
      · try rw [hs]
        show Wk.rest _ (retB ((inf2 (rvN w) _ (rvN w)).bind _)) [] = _
        unfold inf2
        rw [if_pos rfl]
        exact hrest
      · rw [hs]
        intro h9
        simp only [Ph.pos] at hl
        exact ⟨⟨_, p', rfl, by rw [hww]; exact ok', by rw [hww]; exact h9.trans hpp.symm, by simp; omega⟩, by show 40 - (log ++ [_]).length < 40 - log.length; simp; omega⟩
    · have hlost : Lost (rvR A B w) (rvN w) x := ⟨_, y, List.mem_of_getElem? hps, hy, hne y hy, h0⟩
      refine move_of hr' hE (by rw [hs]; exact hE) (tame_info _) trivial (by rw [hs]; exact ⟨_, rfl, hv⟩) (.inr ⟨aAll (rvN w), fun d => retB ((inf3 (rvN w) d).bind (moreP (rvN w) (rvR A B w).rc)), ?_, ?_⟩) (by rw [hs]; exact latr.1) (by rw [hs]; exact latr.2)
      · try rw [hs]
        show Wk.rest _ (retB ((inf2 (rvN w) _ y.inf).bind _)) [] = _
        unfold inf2
        rw [if_neg h0]; rfl
      · rw [hs]
        intro h9
        simp only [Ph.pos] at hl
        exact ⟨⟨x, .C, rfl, by rw [hww]; exact hlost, by rw [hww]; exact h9, by simp [Ph.pos]; omega⟩, by show 40 - (log ++ [_]).length < 40 - log.length; simp; omega⟩
  | C =>
    have hlost : Lost (rvR A B w) (rvN w) x := ok
    have hr' : (helperP (rvN w)).rest (evR (rvN w) (rvR A B w).rc) log = .ask (aAll (rvN w)) (fun d => retB ((inf3 (rvN w) d).bind (moreP (rvN w) (rvR A B w).rc))) := hr
    have hal : x.al w = false := by
      cases h : x.al w with
      | false => rfl
      | true => exact (lost_all hlost (hv.al w h)).elim
    have hs : aAll (rvN w) (h2W A B ep x) = (0, h2W A B ep x) := by rw [rv_all, hal]; rfl
    refine move_of hr' hE (by rw [hs]; exact hE) (tame_all _) trivial (by rw [hs]; exact ⟨_, rfl, hv⟩) (.inr ⟨aSet (rvN w) 0, fun _ => retB ((Wk.ret (some false)).bind (moreP (rvN w) (rvR A B w).rc)), ?_, ?_⟩) (by rw [hs]; exact latr.1) (by rw [hs]; exact latr.2)
    · try rw [hs]
      show Wk.rest _ (retB ((inf3 (rvN w) 0).bind _)) [] = _
      unfold inf3
      rw [if_neg (show ¬ (0 : Int) = 1 by decide)]; rfl
    · rw [hs]
      intro h9
      simp only [Ph.pos] at hl
      exact ⟨⟨x, .E, rfl, by rw [hww]; exact hlost, by rw [hww]; exact h9, by simp [Ph.pos]; omega⟩, by show 40 - (log ++ [_]).length < 40 - log.length; simp; omega⟩
  | E =>
    have hlost : Lost (rvR A B w) (rvN w) x := ok
    have hr' : (helperP (rvN w)).rest (evR (rvN w) (rvR A B w).rc) log = .ask (aSet (rvN w) 0) (fun _ => retB ((Wk.ret (some false)).bind (moreP (rvN w) (rvR A B w).rc))) := hr
    have hs := rv_set (A := A) (B := B) (ep := ep) (x := x) (w := w) 0
    have hst : x.st w = 1 ∨ x.st w = 0 := by
      rcases hv.st w with h | ⟨h, _⟩ | ⟨_, h, _⟩
      · exact .inl h
      · exact .inr h
      · exact (lost_all hlost h).elim
    have lat := rv_later (ep := ep) (who := who) hA hB (RvLe.setSt hst) i0'
    refine move_of hr' hE (by rw [hs]; exact hEz _) (tame_set _ _) trivial (by rw [hs]; exact ⟨_, rfl, rv_inv_st hv (.inl ⟨rfl, hlost⟩)⟩) (.inl ⟨[0], ?_, ?_, by simp⟩) (by rw [hs]; exact lat.1) (by rw [hs]; exact lat.2)
    · try rw [hs]
      rfl
    · rw [hs]
      exact ⟨_, rfl, .inr ⟨rfl, by rw [hww]; cases w <;> rfl⟩⟩
  | S =>
    have ho : AllR (rvR A B w) (rvN w) x := ok
    have hr' : (helperP (rvN w)).rest (evR (rvN w) (rvR A B w).rc) log = .ask (aSetAll (rvN w)) (fun _ => retB ((marksP ((keepL (rvR A B w).rc).drop 0)).bind fun _ => (firstP (rvR A B w).rc).bind fun _ => nilN (rvN w))) := hr
    have hs := rv_setAll (A := A) (B := B) (ep := ep) (x := x) (w := w)
    have lat := rv_later (ep := ep) (who := who) hA hB (RvLe.setAl (x := x) (w := w)) i0'
    have ho' : AllR (rvR A B w) (rvN w) (x.setAl w) := OwnR.mono ho (RvLe.setAl (x := x) (w := w))
    obtain ⟨p', f', k', ok', hpp, hrest, hpos, hp17⟩ := rv_marks hRw (j := 0) (by omega) ho'
    refine move_of hr' hE (by rw [hs]; exact hEz _) (tame_setAll _) trivial (by rw [hs]; exact ⟨_, rfl, rv_inv_al hv ho⟩) (.inr ⟨f', k', ?_, ?_⟩) (by rw [hs]; exact lat.1) (by rw [hs]; exact lat.2)
    · try rw [hs]
      exact hrest
    · rw [hs]
      intro h9
      simp only [Ph.pos] at hl
      exact ⟨⟨_, p', rfl, by rw [hww]; exact ok', by rw [hww]; exact h9.trans hpp.symm, by simp; omega⟩, by show 40 - (log ++ [_]).length < 40 - log.length; simp; omega⟩
  | M j =>
    obtain ⟨ho, hj⟩ := ok
    obtain ⟨hps, hp5⟩ := getp (j + 1) hj
    obtain ⟨y, hy⟩ := rv_get hv hp5
    have hr' : (helperP (rvN w)).rest (evR (rvN w) (rvR A B w).rc) log = .ask (aSetMark (told ((rvR A B w).ps.getD (j + 1) 0))) (fun _ => retB ((marksP ((keepL (rvR A B w).rc).drop (j + 1))).bind fun _ => (firstP (rvR A B w).rc).bind fun _ => nilN (rvN w))) := by
      rw [hr]; show retB ((marksP ((keepL (rvR A B w).rc).drop j)).bind fun _ => (firstP (rvR A B w).rc).bind fun _ => nilN (rvN w)) = _; rw [keepR_drop hRw hj]; rfl
    have hs := rv_mark (A := A) (B := B) (ep := ep) hy hxl
    have hle : RvLe x { x with L := x.L.set ((rvR A B w).ps.getD (j + 1) 0) { y with mrk := true } } := RvLe.setN hy (fun _ => rfl) (fun _ => rfl)
    have hv' := rv_inv_set hA hB hv (v := { y with mrk := true }) hy (fun _ => rfl) (fun _ => rfl) (.inl rfl) (.inl rfl)
    have lat := rv_later (ep := ep) (who := who) hA hB hle i0'
    obtain ⟨p', f', k', ok', hpp, hrest, hpos, hp17⟩ := rv_marks hRw (j := j + 1) (by omega) (OwnR.mono ho hle)
    refine move_of hr' hE (by rw [hs]; exact hEz _) (tame_setMark _) trivial (by rw [hs]; exact ⟨_, rfl, hv'⟩) (.inr ⟨f', k', ?_, ?_⟩) (by rw [hs]; exact lat.1) (by rw [hs]; exact lat.2)
    · try rw [hs]
      exact hrest
    · rw [hs]
      intro h9
      simp only [Ph.pos] at hl
      exact ⟨⟨_, p', rfl, by rw [hww]; exact ok', by rw [hww]; exact h9.trans hpp.symm, by simp; omega⟩, by show 40 - (log ++ [_]).length < 40 - log.length; simp; omega⟩
  | W =>
    have ho : AllR (rvR A B w) (rvN w) x := ok
    have hd5 := hRw.lt _ hRw.hd_mem.1
    obtain ⟨y, hy⟩ := rv_get hv hd5
    have hr' : (helperP (rvN w)).rest (evR (rvN w) (rvR A B w).rc) log = .ask (aSwapWay (told (rvR A B w).hd) 0 (200 + 10 * ((rvR A B w).hd : Int)) (rvR A B w).nw) (fun _ => retB ((Wk.ret ()).bind fun _ => nilN (rvN w))) := by
      rw [hr]; show retB ((firstP (rvR A B w).rc).bind fun _ => nilN (rvN w)) = _; rw [firstR hRw]; rfl
    have hs := rv_way (A := A) (B := B) (ep := ep) hy hxl (200 + 10 * ((rvR A B w).hd : Int)) (rvR A B w).nw
    by_cases hb : y.a = 200 + 10 * ((rvR A B w).hd : Int)
    · rw [if_pos hb] at hs
      have hle : RvLe x { x with L := x.L.set (rvR A B w).hd { y with a := (rvR A B w).nw } } := RvLe.setN hy (fun _ => rfl) (fun h => absurd hb h)
      have hv' := rv_inv_set hA hB hv (v := { y with a := (rvR A B w).nw }) hy (fun _ => rfl) (fun h => absurd hb h) (.inl rfl) (.inr ⟨w, rfl, rfl, ho⟩)
      have lat := rv_later (ep := ep) (who := who) hA hB hle i0'
      refine move_of hr' hE (by rw [hs]; exact hEz _) (tame_swapWay _ _ _ _) trivial (by rw [hs]; exact ⟨_, rfl, hv'⟩) (.inr ⟨aSet (rvN w) 2, fun _ => retB (Wk.ret true), ?_, ?_⟩) (by rw [hs]; exact lat.1) (by rw [hs]; exact lat.2)
      · try rw [hs]
        rfl
      · rw [hs]
        intro h9
        simp only [Ph.pos] at hl
        have hF : Ph.okR (rvR A B w) (rvN w) { x with L := x.L.set (rvR A B w).hd { y with a := (rvR A B w).nw } } .F := ⟨OwnR.mono ho hle, fun u hu => by
          dsimp only at hu
          rw [List.getElem?_set_self (List.getElem?_eq_some_iff.1 hy).1] at hu
          injection hu with hu
          rw [← hu]⟩
        exact ⟨⟨_, .F, rfl, by rw [hww]; exact hF, by rw [hww]; exact h9, by simp [Ph.pos]; omega⟩, by show 40 - (log ++ [_]).length < 40 - log.length; simp; omega⟩
    · rw [if_neg hb] at hs
      have hwy : y.a = (rvR A B w).nw := by
        rcases hv.way _ y hy with h | ⟨w', e1, e2, e3⟩
        · exact absurd h hb
        · by_cases hw' : w' = w
          · rw [hw'] at e1; exact e1
          · have m1 : (rvR A B w).hd ∈ (rvR A B w').ps := by rw [e2]; exact (hR w').hd_mem.1
            have m2 := hRw.hd_mem.1
            cases w <;> cases w' <;> first | exact absurd rfl hw' | exact (not_both hv m1 m2 hd5 e3 ho).elim | exact (not_both hv m2 m1 hd5 ho e3).elim
      refine move_of hr' hE (by rw [hs]; exact hE) (tame_swapWay _ _ _ _) trivial (by rw [hs]; exact ⟨_, rfl, hv⟩) (.inr ⟨aSet (rvN w) 2, fun _ => retB (Wk.ret true), ?_, ?_⟩) (by rw [hs]; exact latr.1) (by rw [hs]; exact latr.2)
      · try rw [hs]
        rfl
      · rw [hs]
        intro h9
        simp only [Ph.pos] at hl
        have hF : Ph.okR (rvR A B w) (rvN w) x .F := ⟨ho, fun u hu => by
          rw [hy] at hu
          injection hu with hu
          rw [← hu]; exact hwy⟩
        exact ⟨⟨x, .F, rfl, by rw [hww]; exact hF, by rw [hww]; exact h9, by simp [Ph.pos]; omega⟩, by show 40 - (log ++ [_]).length < 40 - log.length; simp; omega⟩
  | F =>
    obtain ⟨ho, hb⟩ := ok
    have hr' : (helperP (rvN w)).rest (evR (rvN w) (rvR A B w).rc) log = .ask (aSet (rvN w) 2) (fun _ => retB (Wk.ret true)) := hr
    have hs := rv_set (A := A) (B := B) (ep := ep) (x := x) (w := w) 2
    have hst : x.st w = 1 ∨ x.st w = 2 := by
      rcases hv.st w with h | ⟨_, h⟩ | ⟨h, _⟩
      · exact .inl h
      · exact (lost_all h ho).elim
      · exact .inr h
    have lat := rv_later (ep := ep) (who := who) hA hB (RvLe.setSt hst) i0'
    refine move_of hr' hE (by rw [hs]; exact hEz _) (tame_set _ _) trivial (by rw [hs]; exact ⟨_, rfl, rv_inv_st hv (.inr ⟨rfl, ho, hb⟩)⟩) (.inl ⟨[1], ?_, ?_, by simp⟩) (by rw [hs]; exact lat.1) (by rw [hs]; exact lat.2)
    · try rw [hs]
      rfl
    · rw [hs]
      exact ⟨_, rfl, .inl ⟨rfl, by rw [hww]; cases w <;> rfl⟩⟩
end Go.Proofs.Ythkohomogknddaa
