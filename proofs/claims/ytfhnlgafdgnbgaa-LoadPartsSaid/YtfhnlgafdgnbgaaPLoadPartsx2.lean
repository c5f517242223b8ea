-- PRINTED BY print.sh 35421559b90ae4d0a3588c463048766b98c2df88dd9212a6774a882060cdf62d: not written by this session
import Derived.Test.YtfhnlgafdgnbgaaPLoadPartsx0
import Derived.Test.YtfhnlgafdgnbgaaPLoadPartsx1
namespace Go.Proofs.Ytfhnlgafdgnbgaa.PLoadParts
open Go.RowKit Go.Proofs.YtfhnlgafdgnbgaaW.PrintWords Go.Proofs.YtfhnlgafdgnbgaaW.PrintLast Go.Proofs.YtfhnlgafdgnbgaaW.PrintMore
attribute [local go_sem] max2_int min2_int max_two min_two max_three min_three max_four min_four   -- for this text's walks alone
set_option linter.unusedVariables false
set_option linter.unusedSimpArgs false

/-! ### boscagelaw20_LoadParts: function 3 -/
mutual
def boscagelaw20_LoadParts.j0 : Nat → Int → Int → List Int → Bool → Option (Bool)
  | 0, _, _, _, _ => none
  | k + 1, x0, x1, x5, x22 => if x22 = true then (some ((x5.length : Int) == 0)) else (if x0 > 20000 then (if (x5.length : Int) > 0 then (if x1 = 0 then (none) else (if (x5.length : Int) = (wrap64 ((wrap64 (Int.tdiv (wrap64 (x0 - 1)) x1)) + 1)) then (if 0 ≤ (wrap64 ((x5.length : Int) - 1)) then (if (wrap64 ((x5.length : Int) - 1)) < (x5.length : Int) then (if (x5.length : Int) = 0 then (none) else (if (rd x5 (wrap64 ((x5.length : Int) - 1))) = (wrap64 (Int.tdiv x0 (x5.length : Int))) then (if 0 < (x5.length : Int) then (some ((rd x5 0) == (wrap64 ((wrap64 (Int.tdiv (wrap64 (x0 - 1)) (x5.length : Int))) + 1)))) else (none)) else (some false))) else (none)) else (none)) else (some false))) else (some false)) else ((boscagelaw11_Parts.f k x0 x1).bind fun t129 => (if (x5.length : Int) = (t129.length : Int) then (boscagelaw20_LoadParts.l0 k x5 t129 (x5.length : Int) 0) else (some false))))
def boscagelaw20_LoadParts.l0 : Nat → List Int → List Int → Int → Int → Option (Bool)
  | 0, _, _, _, _ => none
  | k + 1, x5, x6, x75, x76 => if x76 < x75 then (if 0 ≤ x76 then (if x76 < (x5.length : Int) then (if x76 < (x6.length : Int) then (if (rd x5 x76) = (rd x6 x76) then (boscagelaw20_LoadParts.l0 k x5 x6 x75 (wrap64 (x76 + 1))) else (some false)) else (none)) else (none)) else (none)) else (some true)
end
def boscagelaw20_LoadParts.f (k : Nat) (a0 : Int) (a1 : Int) : Option (Bool) := (boscagelaw20_Awake.f k).bind fun t123 => (if t123 = true then ((load_Parts.f k a0 a1).bind fun t124 => (if a0 < 1 then (boscagelaw20_LoadParts.j0 k a0 a1 t124 true) else (if a0 > 2097152 then (boscagelaw20_LoadParts.j0 k a0 a1 t124 true) else (boscagelaw20_LoadParts.j0 k a0 a1 t124 (decide (a1 < 1)))))) else (some false))
theorem boscagelaw20_LoadParts.mono_l : ∀ k, (∀ y0 y1 y2 y3, LeO (boscagelaw20_LoadParts.j0 k y0 y1 y2 y3) (boscagelaw20_LoadParts.j0 (k + 1) y0 y1 y2 y3)) ∧ (∀ y0 y1 y2 y3, LeO (boscagelaw20_LoadParts.l0 k y0 y1 y2 y3) (boscagelaw20_LoadParts.l0 (k + 1) y0 y1 y2 y3))
  | 0 => ⟨fun _ _ _ _ r h => by simp [boscagelaw20_LoadParts.j0] at h, fun _ _ _ _ r h => by simp [boscagelaw20_LoadParts.l0] at h⟩
  | k + 1 => by
    obtain ⟨ih0, ih1⟩ := boscagelaw20_LoadParts.mono_l k
    refine ⟨?_, ?_⟩
    · intro y0 y1 y2 y3
      unfold boscagelaw20_LoadParts.j0
      repeat' first
      | (with_reducible exact ih0 _ _ _ _)
      | (with_reducible exact ih1 _ _ _ _)
      | (with_reducible exact boscagelaw11_Parts.mono _ _ _)
      | (with_reducible exact boscagelaw20_Awake.mono _)
      | (with_reducible exact load_Parts.mono _ _ _)
      | (with_reducible exact LeO.refl _)
      | (with_reducible exact LeO.none _)
      | (with_reducible refine LeO.ite ?_ ?_)
      | (with_reducible refine LeO.bind ?_ (fun _ => ?_))
      | exact ih0 _ _ _ _
      | exact ih1 _ _ _ _
      | exact boscagelaw11_Parts.mono _ _ _
      | exact boscagelaw20_Awake.mono _
      | exact load_Parts.mono _ _ _
      | exact LeO.none _
      | refine LeO.ite ?_ ?_
      | refine LeO.bind ?_ (fun _ => ?_)
    · intro y0 y1 y2 y3
      unfold boscagelaw20_LoadParts.l0
      repeat' first
      | (with_reducible exact ih0 _ _ _ _)
      | (with_reducible exact ih1 _ _ _ _)
      | (with_reducible exact boscagelaw11_Parts.mono _ _ _)
      | (with_reducible exact boscagelaw20_Awake.mono _)
      | (with_reducible exact load_Parts.mono _ _ _)
      | (with_reducible exact LeO.refl _)
      | (with_reducible exact LeO.none _)
      | (with_reducible refine LeO.ite ?_ ?_)
      | (with_reducible refine LeO.bind ?_ (fun _ => ?_))
      | exact ih0 _ _ _ _
      | exact ih1 _ _ _ _
      | exact boscagelaw11_Parts.mono _ _ _
      | exact boscagelaw20_Awake.mono _
      | exact load_Parts.mono _ _ _
      | exact LeO.none _
      | refine LeO.ite ?_ ?_
      | refine LeO.bind ?_ (fun _ => ?_)
theorem boscagelaw20_LoadParts.mono : ∀ a0 a1 k, LeO (boscagelaw20_LoadParts.f k a0 a1) (boscagelaw20_LoadParts.f (k + 1) a0 a1) := by
  intro a0 a1 k
  obtain ⟨ih0, ih1⟩ := boscagelaw20_LoadParts.mono_l k
  unfold boscagelaw20_LoadParts.f
  repeat' first
      | (with_reducible exact ih0 _ _ _ _)
      | (with_reducible exact ih1 _ _ _ _)
      | (with_reducible exact boscagelaw11_Parts.mono _ _ _)
      | (with_reducible exact boscagelaw20_Awake.mono _)
      | (with_reducible exact load_Parts.mono _ _ _)
      | (with_reducible exact LeO.refl _)
      | (with_reducible exact LeO.none _)
      | (with_reducible refine LeO.ite ?_ ?_)
      | (with_reducible refine LeO.bind ?_ (fun _ => ?_))
      | exact ih0 _ _ _ _
      | exact ih1 _ _ _ _
      | exact boscagelaw11_Parts.mono _ _ _
      | exact boscagelaw20_Awake.mono _
      | exact load_Parts.mono _ _ _
      | exact LeO.none _
      | refine LeO.ite ?_ ?_
      | refine LeO.bind ?_ (fun _ => ?_)
set_option maxHeartbeats 8000000 in
set_option maxRecDepth 100000 in
theorem boscagelaw20_LoadParts.calls (k : Nat) (a0 : Int) (a1 : Int) (r : Bool) (w : World) (h : boscagelaw20_LoadParts.f k a0 a1 = some r) :
    Calls Try.prog 3 #[.int .i64 a0, .int .i64 a1] w fun e w' => e = .returned (.bool r) ∧ Below w.heap.size w w' := by
  have HB := Aside0.mk (Below.refl w.heap.size w)
  have H : ((boscagelaw20_Awake.f k).bind fun t123 => (if t123 = true then ((load_Parts.f k a0 a1).bind fun t124 => (if a0 < 1 then (boscagelaw20_LoadParts.j0 k a0 a1 t124 true) else (if a0 > 2097152 then (boscagelaw20_LoadParts.j0 k a0 a1 t124 true) else (boscagelaw20_LoadParts.j0 k a0 a1 t124 (decide (a1 < 1)))))) else (some false))) = some r := h
  clear h
  replace H := Option.bind_eq_some_iff.mp H
  obtain ⟨t123, A30, H⟩ := H
  replace H : (if t123 = true then ((load_Parts.f k a0 a1).bind fun t124 => (if a0 < 1 then (boscagelaw20_LoadParts.j0 k a0 a1 t124 true) else (if a0 > 2097152 then (boscagelaw20_LoadParts.j0 k a0 a1 t124 true) else (boscagelaw20_LoadParts.j0 k a0 a1 t124 (decide (a1 < 1)))))) else (some false)) = some r := H
  have A3 := Aside0.mk A30
  clear A30
  by_cases c4 : t123 = true
  · subst c4
    have H1 : ((load_Parts.f k a0 a1).bind fun t124 => (if a0 < 1 then (boscagelaw20_LoadParts.j0 k a0 a1 t124 true) else (if a0 > 2097152 then (boscagelaw20_LoadParts.j0 k a0 a1 t124 true) else (boscagelaw20_LoadParts.j0 k a0 a1 t124 (decide (a1 < 1)))))) = some r := by rw [if_pos rfl] at H; exact H
    clear H
    have H := H1
    clear H1
    replace H := Option.bind_eq_some_iff.mp H
    obtain ⟨t124, A50, H⟩ := H
    replace H : (if a0 < 1 then (boscagelaw20_LoadParts.j0 k a0 a1 t124 true) else (if a0 > 2097152 then (boscagelaw20_LoadParts.j0 k a0 a1 t124 true) else (boscagelaw20_LoadParts.j0 k a0 a1 t124 (decide (a1 < 1))))) = some r := H
    have A5 := Aside0.mk A50
    clear A50
    have HC6 := Aside0.mk H
    clear H
    go_enter Try.func3, Try.ntmps3
    go_upto_region 4 with (first | (go_at_call 6; (with_reducible refine (boscagelaw20_Awake.calls k  true _ A3.out).mono ?_); rintro e w7 ⟨rfl, hb⟩; have n0_ := Aside0.mk (below_step (by repeat (first | (with_reducible first | exact HB.out | apply below_alloc | apply pw_below_drewN | apply below_drew1) | exact HB.out)) hb); clear HB; have HB := n0_; clear n0_; (try clear hb); (try clear hb2); (try clear hk); (try clear hi)) | (go_at_call 7; (with_reducible refine (load_Parts.calls k a0 a1 t124 _ A5.out).mono ?_); rintro e w8 ⟨v125, rfl, ho0, hb⟩; have n0_ := Aside0.mk (Kd.R_lower ho0 (below_size (by repeat (first | (with_reducible first | exact HB.out | apply below_alloc | apply pw_below_drewN | apply below_drew1) | exact HB.out)))); have n1_ := Aside0.mk (below_step (by repeat (first | (with_reducible first | exact HB.out | apply below_alloc | apply pw_below_drewN | apply below_drew1) | exact HB.out)) hb); clear HB; have HO126 := n0_; have HB := n1_; clear n0_ n1_; (try clear hb); (try clear hb2); (try clear hk); (try clear hi); (try clear ho0)))
    repeat (go_quiet (first | (go_at_call 6; (with_reducible refine (boscagelaw20_Awake.calls k  true _ A3.out).mono ?_); rintro e w7 ⟨rfl, hb⟩; have n0_ := Aside0.mk (below_step (by repeat (first | (with_reducible first | exact HB.out | apply below_alloc | apply pw_below_drewN | apply below_drew1) | exact HB.out)) hb); clear HB; have HB := n0_; clear n0_; (try clear hb); (try clear hb2); (try clear hk); (try clear hi)) | (go_at_call 7; (with_reducible refine (load_Parts.calls k a0 a1 t124 _ A5.out).mono ?_); rintro e w8 ⟨v125, rfl, ho0, hb⟩; have n0_ := Aside0.mk (Kd.R_lower ho0 (below_size (by repeat (first | (with_reducible first | exact HB.out | apply below_alloc | apply pw_below_drewN | apply below_drew1) | exact HB.out)))); have n1_ := Aside0.mk (below_step (by repeat (first | (with_reducible first | exact HB.out | apply below_alloc | apply pw_below_drewN | apply below_drew1) | exact HB.out)) hb); clear HB; have HO126 := n0_; have HB := n1_; clear n0_ n1_; (try clear hb); (try clear hb2); (try clear hk); (try clear hi); (try clear ho0))); go_upto_region 4 with (first | (go_at_call 6; (with_reducible refine (boscagelaw20_Awake.calls k  true _ A3.out).mono ?_); rintro e w7 ⟨rfl, hb⟩; have n0_ := Aside0.mk (below_step (by repeat (first | (with_reducible first | exact HB.out | apply below_alloc | apply pw_below_drewN | apply below_drew1) | exact HB.out)) hb); clear HB; have HB := n0_; clear n0_; (try clear hb); (try clear hb2); (try clear hk); (try clear hi)) | (go_at_call 7; (with_reducible refine (load_Parts.calls k a0 a1 t124 _ A5.out).mono ?_); rintro e w8 ⟨v125, rfl, ho0, hb⟩; have n0_ := Aside0.mk (Kd.R_lower ho0 (below_size (by repeat (first | (with_reducible first | exact HB.out | apply below_alloc | apply pw_below_drewN | apply below_drew1) | exact HB.out)))); have n1_ := Aside0.mk (below_step (by repeat (first | (with_reducible first | exact HB.out | apply below_alloc | apply pw_below_drewN | apply below_drew1) | exact HB.out)) hb); clear HB; have HO126 := n0_; have HB := n1_; clear n0_ n1_; (try clear hb); (try clear hb2); (try clear hk); (try clear hi); (try clear ho0))))
    (try simp only [Act.put, List.setIfInBounds_toArray, List.set_cons_zero, List.set_cons_succ])
    go_cut [22] (fun v22 wc => ∃ (kq : Nat) (x22_5 : Bool), v22 = .bool x22_5 ∧ Aside0 (boscagelaw20_LoadParts.j0 kq a0 a1 t124 x22_5 = some r) ∧ Aside0 (kq ≤ k) ∧ Aside0 (Kd.R (Kd.int .i64) 3 wc w.heap.size (fun _ => True) v125 t124) ∧ Aside0 (Below w.heap.size w wc))
    case first =>
      have H := HC6.out
      clear HC6
      by_cases c9 : a0 < 1
      · rw [if_pos c9] at H
        have c9b0 : decide (a0 < 1) = true := decide_eq_true c9
        clear c9
        (first | rw [c9b0] | (simp only [i64_w, i32_w]; rw [c9b0]) | skip)
        have H' := Aside0.mk H
        clear H
        go_wp2
        repeat (go_quiet (fail); try go_wp2)
        go_meet
        case rel => exact ⟨_, (true), (by first | rfl | (simp; done) | (simp [*]; done)), H', ⟨by first | omega | exact Nat.le_refl _⟩, ⟨by (with_reducible repeat (first | apply Kd.R_alloc | apply Kd.R_drewN | apply Kd.R_drew)); exact HO126.out⟩, ⟨by repeat (first | (with_reducible first | exact HB.out | apply below_alloc | apply pw_below_drewN | apply below_drew1) | exact HB.out)⟩⟩
      · rw [if_neg c9] at H
        have c9b0 : decide (a0 < 1) = false := decide_eq_false c9
        clear c9
        (first | rw [c9b0] | (simp only [i64_w, i32_w]; rw [c9b0]) | skip)
        by_cases c10 : a0 > 2097152
        · rw [if_pos c10] at H
          have c10b0 : decide (2097152 < a0) = true := decide_eq_true c10
          clear c10
          have H' := Aside0.mk H
          clear H
          go_wp2
          repeat (go_quiet (fail); try go_wp2)
          go_meet
          case rel => exact ⟨_, (true), (by first | rfl | (simp; done) | (simp [*]; done)), H', ⟨by first | omega | exact Nat.le_refl _⟩, ⟨by (with_reducible repeat (first | apply Kd.R_alloc | apply Kd.R_drewN | apply Kd.R_drew)); exact HO126.out⟩, ⟨by repeat (first | (with_reducible first | exact HB.out | apply below_alloc | apply pw_below_drewN | apply below_drew1) | exact HB.out)⟩⟩
        · rw [if_neg c10] at H
          have c10b0 : decide (2097152 < a0) = false := decide_eq_false c10
          clear c10
          have H' := Aside0.mk H
          clear H
          go_wp2
          repeat (go_quiet (fail); try go_wp2)
          go_meet
          case rel => exact ⟨_, (decide (a1 < 1)), (by first | rfl | (simp; done) | (simp [*]; done)), H', ⟨by first | omega | exact Nat.le_refl _⟩, ⟨by (with_reducible repeat (first | apply Kd.R_alloc | apply Kd.R_drewN | apply Kd.R_drew)); exact HO126.out⟩, ⟨by repeat (first | (with_reducible first | exact HB.out | apply below_alloc | apply pw_below_drewN | apply below_drew1) | exact HB.out)⟩⟩
    case rest =>
      clear HC6
      try clear c1
      try clear p2
      try clear c3
      try clear c4
      try clear c9
      try clear c9b0
      try clear c10
      try clear c10b0
      obtain ⟨kq, x22_5, rfl, HA, HJ5, HO_5, HB⟩ := hcut
      cases kq with
      | zero => exact absurd HA.out (by simp [boscagelaw20_LoadParts.j0])
      | succ kj5 =>
        have H := HA.out
        clear HA
        simp only [boscagelaw20_LoadParts.j0] at H
        by_cases c11 : x22_5 = true
        · subst c11
          have H1 : (some ((t124.length : Int) == 0)) = some r := by rw [if_pos rfl] at H; exact H
          clear H
          have H := H1
          clear H1
          obtain rfl := Option.some.inj H
          obtain ⟨Ao12, co12, eo12⟩ := Kd.R_slice HO_5.out
          subst eo12
          go_wp2
          repeat (go_quiet (fail); try go_wp2)
          go_ret
          exact ⟨by first | rfl | (simp [errW_none, errW_some] <;> rfl) | (simp [*, errW_none, errW_some] <;> rfl), by repeat (first | (with_reducible first | exact HB.out | apply below_alloc | apply pw_below_drewN | apply below_drew1) | exact HB.out)⟩
        · replace c11 := Bool.eq_false_iff.mpr c11
          subst c11
          have H1 : (if a0 > 20000 then (if (t124.length : Int) > 0 then (if a1 = 0 then (none) else (if (t124.length : Int) = (wrap64 ((wrap64 (Int.tdiv (wrap64 (a0 - 1)) a1)) + 1)) then (if 0 ≤ (wrap64 ((t124.length : Int) - 1)) then (if (wrap64 ((t124.length : Int) - 1)) < (t124.length : Int) then (if (t124.length : Int) = 0 then (none) else (if (rd t124 (wrap64 ((t124.length : Int) - 1))) = (wrap64 (Int.tdiv a0 (t124.length : Int))) then (if 0 < (t124.length : Int) then (some ((rd t124 0) == (wrap64 ((wrap64 (Int.tdiv (wrap64 (a0 - 1)) (t124.length : Int))) + 1)))) else (none)) else (some false))) else (none)) else (none)) else (some false))) else (some false)) else ((boscagelaw11_Parts.f kj5 a0 a1).bind fun t129 => (if (t124.length : Int) = (t129.length : Int) then (boscagelaw20_LoadParts.l0 kj5 t124 t129 (t124.length : Int) 0) else (some false)))) = some r := by rw [if_neg (show ¬ (false = true) by decide)] at H; exact H
          clear H
          have H := H1
          clear H1
          by_cases c13 : a0 > 20000
          · rw [if_pos c13] at H
            have c13b0 : decide (20000 < a0) = true := decide_eq_true c13
            clear c13
            by_cases c14 : (t124.length : Int) > 0
            · rw [if_pos c14] at H
              have c14b0 : decide (0 < (t124.length : Int)) = true := decide_eq_true c14
              have c14b1 : decide (0 < t124.length) = true := decide_eq_true (by omega)
              clear c14
              by_cases c15 : a1 = 0
              · rw [if_pos c15] at H
                exact absurd H (by simp)
              · rw [if_neg c15] at H
                have c15b0 : (a1 == 0) = false := beq_eq_false_iff_ne.mpr c15
                have c15b1 : (a1 != 0) = true := bne_iff_ne.mpr c15
                by_cases c16 : (t124.length : Int) = (wrap64 ((wrap64 (Int.tdiv (wrap64 (a0 - 1)) a1)) + 1))
                · rw [if_pos c16] at H
                  have c16b0 : ((t124.length : Int) == (wrap64 ((wrap64 (Int.tdiv (wrap64 (a0 - 1)) a1)) + 1))) = true := beq_iff_eq.mpr c16
                  have c16b1 : ((t124.length : Int) != (wrap64 ((wrap64 (Int.tdiv (wrap64 (a0 - 1)) a1)) + 1))) = false := bne_eq_false_iff_eq.mpr c16
                  clear c16
                  obtain ⟨ji17, hji17⟩ : ∃ j_ : Int, (wrap64 ((t124.length : Int) - 1)) = j_ := ⟨_, rfl⟩
                  replace H : (if 0 ≤ (ji17) then (if (ji17) < (t124.length : Int) then (if (t124.length : Int) = 0 then (none) else (if (rd t124 (ji17)) = (wrap64 (Int.tdiv a0 (t124.length : Int))) then (if 0 < (t124.length : Int) then (some ((rd t124 0) == (wrap64 ((wrap64 (Int.tdiv (wrap64 (a0 - 1)) (t124.length : Int))) + 1)))) else (none)) else (some false))) else (none)) else (none)) = some r := by first | (rw [hji17] at H; exact H) | (simp only [hji17] at H ⊢; exact H)
                  have hji17w : (IntKind.i64.wrap ((t124.length : Int) - 1)) = ji17 := (i64_w _).trans hji17
                  by_cases c18 : 0 ≤ (ji17)
                  · rw [if_pos c18] at H
                    have c18b0 : decide (0 ≤ (ji17)) = true := decide_eq_true c18
                    clear c18
                    by_cases c19 : (ji17) < (t124.length : Int)
                    · rw [if_pos c19] at H
                      have c19b0 : decide ((ji17) < (t124.length : Int)) = true := decide_eq_true c19
                      clear c19
                      by_cases c20 : (t124.length : Int) = 0
                      · rw [if_pos c20] at H
                        exact absurd H (by simp)
                      · rw [if_neg c20] at H
                        have c20b0 : ((t124.length : Int) == 0) = false := beq_eq_false_iff_ne.mpr c20
                        have c20b1 : ((t124.length : Int) != 0) = true := bne_iff_ne.mpr c20
                        have c20b2 : ¬ (t124 = []) := fun h_ => c20 (by rw [h_]; rfl)
                        by_cases c21 : (rd t124 (ji17)) = (wrap64 (Int.tdiv a0 (t124.length : Int)))
                        · rw [if_pos c21] at H
                          have c21b0 : ((rd t124 (ji17)) == (wrap64 (Int.tdiv a0 (t124.length : Int)))) = true := beq_iff_eq.mpr c21
                          have c21b1 : ((rd t124 (ji17)) != (wrap64 (Int.tdiv a0 (t124.length : Int)))) = false := bne_eq_false_iff_eq.mpr c21
                          clear c21
                          by_cases c22 : 0 < (t124.length : Int)
                          · rw [if_pos c22] at H
                            have c22b0 : decide (0 < (t124.length : Int)) = true := decide_eq_true c22
                            have c22b1 : decide (0 < t124.length) = true := decide_eq_true (by omega)
                            clear c22
                            obtain rfl := Option.some.inj H
                            obtain ⟨Ao23, co23, eo23⟩ := Kd.R_slice HO_5.out
                            subst eo23
                            have p127 : 0 ≤ ((ji17) : Int) := of_decide_eq_true (by first | (with_reducible assumption) | assumption)
                            have q127 : (ji17) < (t124.length : Int) := of_decide_eq_true (by first | (with_reducible assumption) | assumption)
                            obtain ⟨ad127, e127, hx127_0⟩ := Kd.at_int (Kd.R_reads' HO_5.out).2.2 (ji17) p127 q127
                            cases e127
                            replace p127 := eq_true p127
                            replace q127 := eq_true q127
                            have p128 : 0 ≤ (0 : Int) := (by omega)
                            have q128 : 0 < (t124.length : Int) := of_decide_eq_true (by first | (with_reducible assumption) | assumption)
                            obtain ⟨ad128, e128, hx128_0⟩ := Kd.at_int (Kd.R_reads' HO_5.out).2.2 0 p128 q128
                            obtain rfl : ad127 = ad128 := (by injection e128)
                            have qi128 : (0 < t124.length) = True := eq_true (by omega)
                            (try rw [show ((0 : Int)).toNat = 0 from rfl] at hx128_0)
                            (try rw [Addr.add_zero'] at hx128_0)
                            replace p128 := eq_true p128
                            replace q128 := eq_true q128
                            go_wp2
                            repeat (go_quiet (fail); try go_wp2)
                            go_ret
                            exact ⟨by first | rfl | (simp [errW_none, errW_some] <;> rfl) | (simp only [← hji17]; first | rfl | (simp [errW_none, errW_some] <;> rfl)) | (simp [*, errW_none, errW_some] <;> rfl), by repeat (first | (with_reducible first | exact HB.out | apply below_alloc | apply pw_below_drewN | apply below_drew1) | exact HB.out)⟩
                          · rw [if_neg c22] at H
                            exact absurd H (by simp)
                        · rw [if_neg c21] at H
                          have c21b0 : ((rd t124 (ji17)) == (wrap64 (Int.tdiv a0 (t124.length : Int)))) = false := beq_eq_false_iff_ne.mpr c21
                          have c21b1 : ((rd t124 (ji17)) != (wrap64 (Int.tdiv a0 (t124.length : Int)))) = true := bne_iff_ne.mpr c21
                          obtain rfl := Option.some.inj H
                          obtain ⟨Ao24, co24, eo24⟩ := Kd.R_slice HO_5.out
                          subst eo24
                          have p127 : 0 ≤ ((ji17) : Int) := of_decide_eq_true (by first | (with_reducible assumption) | assumption)
                          have q127 : (ji17) < (t124.length : Int) := of_decide_eq_true (by first | (with_reducible assumption) | assumption)
                          obtain ⟨ad127, e127, hx127_0⟩ := Kd.at_int (Kd.R_reads' HO_5.out).2.2 (ji17) p127 q127
                          cases e127
                          replace p127 := eq_true p127
                          replace q127 := eq_true q127
                          go_wp2
                          repeat (go_quiet (fail); try go_wp2)
                          go_ret
                          exact ⟨by first | rfl | (simp [errW_none, errW_some] <;> rfl) | (simp only [← hji17]; first | rfl | (simp [errW_none, errW_some] <;> rfl)) | (simp [*, errW_none, errW_some] <;> rfl), by repeat (first | (with_reducible first | exact HB.out | apply below_alloc | apply pw_below_drewN | apply below_drew1) | exact HB.out)⟩
                    · rw [if_neg c19] at H
                      exact absurd H (by simp)
                  · rw [if_neg c18] at H
                    exact absurd H (by simp)
                · rw [if_neg c16] at H
                  have c16b0 : ((t124.length : Int) == (wrap64 ((wrap64 (Int.tdiv (wrap64 (a0 - 1)) a1)) + 1))) = false := beq_eq_false_iff_ne.mpr c16
                  have c16b1 : ((t124.length : Int) != (wrap64 ((wrap64 (Int.tdiv (wrap64 (a0 - 1)) a1)) + 1))) = true := bne_iff_ne.mpr c16
                  obtain rfl := Option.some.inj H
                  obtain ⟨Ao25, co25, eo25⟩ := Kd.R_slice HO_5.out
                  subst eo25
                  go_wp2
                  repeat (go_quiet (fail); try go_wp2)
                  go_ret
                  exact ⟨by first | rfl | (simp [errW_none, errW_some] <;> rfl) | (simp [*, errW_none, errW_some] <;> rfl), by repeat (first | (with_reducible first | exact HB.out | apply below_alloc | apply pw_below_drewN | apply below_drew1) | exact HB.out)⟩
            · rw [if_neg c14] at H
              have c14b0 : decide (0 < (t124.length : Int)) = false := decide_eq_false c14
              have c14b1 : decide (0 < t124.length) = false := decide_eq_false (by omega)
              clear c14
              obtain rfl := Option.some.inj H
              obtain ⟨Ao26, co26, eo26⟩ := Kd.R_slice HO_5.out
              subst eo26
              go_wp2
              repeat (go_quiet (fail); try go_wp2)
              go_ret
              exact ⟨by first | rfl | (simp [errW_none, errW_some] <;> rfl) | (simp [*, errW_none, errW_some] <;> rfl), by repeat (first | (with_reducible first | exact HB.out | apply below_alloc | apply pw_below_drewN | apply below_drew1) | exact HB.out)⟩
          · rw [if_neg c13] at H
            have c13b0 : decide (20000 < a0) = false := decide_eq_false c13
            clear c13
            replace H := Option.bind_eq_some_iff.mp H
            obtain ⟨t129, A270, H⟩ := H
            replace H : (if (t124.length : Int) = (t129.length : Int) then (boscagelaw20_LoadParts.l0 kj5 t124 t129 (t124.length : Int) 0) else (some false)) = some r := H
            have A27 := Aside0.mk A270
            clear A270
            by_cases c28 : (t124.length : Int) = (t129.length : Int)
            · rw [if_pos c28] at H
              have c28b0 : ((t124.length : Int) == (t129.length : Int)) = true := beq_iff_eq.mpr c28
              have c28b1 : ((t124.length : Int) != (t129.length : Int)) = false := bne_eq_false_iff_eq.mpr c28
              have c28b2 : (t124.length == t129.length) = true := by first | simpa using c28 | (simp at c28 ⊢; omega)
              clear c28
              have H' := Aside0.mk H
              clear H
              go_wp2_with (first | (go_at_call 8; (with_reducible refine (boscagelaw11_Parts.calls kj5 a0 a1 t129 _ A27.out).mono ?_); rintro e w29 ⟨v130, rfl, ho0, hb⟩; have n0_ := Aside0.mk (Kd.R_elder' (by (with_reducible repeat (first | apply Kd.R_alloc | apply Kd.R_drewN | apply Kd.R_drew)); exact HO_5.out) (Kd.R_base ho0) hb); have n1_ := Aside0.mk (Kd.R_lower (Kd.R_new' ho0 (Kd.R_lt (by (with_reducible repeat (first | apply Kd.R_alloc | apply Kd.R_drewN | apply Kd.R_drew)); exact HO_5.out))) (below_size (by repeat (first | (with_reducible first | exact HB.out | apply below_alloc | apply pw_below_drewN | apply below_drew1) | exact HB.out)))); have n2_ := Aside0.mk (below_step (by repeat (first | (with_reducible first | exact HB.out | apply below_alloc | apply pw_below_drewN | apply below_drew1) | exact HB.out)) hb); clear HO_5; clear HB; have HO_5 := n0_; have HO131 := n1_; have HB := n2_; clear n0_ n1_ n2_; (try clear hb); (try clear hb2); (try clear hk); (try clear hi); (try clear ho0); obtain ⟨Ao30, co30, eo30⟩ := Kd.R_slice HO_5.out; subst eo30; obtain ⟨Ao31, co31, eo31⟩ := Kd.R_slice HO131.out; subst eo31))
              repeat (go_quiet (first | (go_at_call 8; (with_reducible refine (boscagelaw11_Parts.calls kj5 a0 a1 t129 _ A27.out).mono ?_); rintro e w29 ⟨v130, rfl, ho0, hb⟩; have n0_ := Aside0.mk (Kd.R_elder' (by (with_reducible repeat (first | apply Kd.R_alloc | apply Kd.R_drewN | apply Kd.R_drew)); exact HO_5.out) (Kd.R_base ho0) hb); have n1_ := Aside0.mk (Kd.R_lower (Kd.R_new' ho0 (Kd.R_lt (by (with_reducible repeat (first | apply Kd.R_alloc | apply Kd.R_drewN | apply Kd.R_drew)); exact HO_5.out))) (below_size (by repeat (first | (with_reducible first | exact HB.out | apply below_alloc | apply pw_below_drewN | apply below_drew1) | exact HB.out)))); have n2_ := Aside0.mk (below_step (by repeat (first | (with_reducible first | exact HB.out | apply below_alloc | apply pw_below_drewN | apply below_drew1) | exact HB.out)) hb); clear HO_5; clear HB; have HO_5 := n0_; have HO131 := n1_; have HB := n2_; clear n0_ n1_ n2_; (try clear hb); (try clear hb2); (try clear hk); (try clear hi); (try clear ho0); obtain ⟨Ao30, co30, eo30⟩ := Kd.R_slice HO_5.out; subst eo30; obtain ⟨Ao31, co31, eo31⟩ := Kd.R_slice HO131.out; subst eo31)); try go_wp2_with (first | (go_at_call 8; (with_reducible refine (boscagelaw11_Parts.calls kj5 a0 a1 t129 _ A27.out).mono ?_); rintro e w29 ⟨v130, rfl, ho0, hb⟩; have n0_ := Aside0.mk (Kd.R_elder' (by (with_reducible repeat (first | apply Kd.R_alloc | apply Kd.R_drewN | apply Kd.R_drew)); exact HO_5.out) (Kd.R_base ho0) hb); have n1_ := Aside0.mk (Kd.R_lower (Kd.R_new' ho0 (Kd.R_lt (by (with_reducible repeat (first | apply Kd.R_alloc | apply Kd.R_drewN | apply Kd.R_drew)); exact HO_5.out))) (below_size (by repeat (first | (with_reducible first | exact HB.out | apply below_alloc | apply pw_below_drewN | apply below_drew1) | exact HB.out)))); have n2_ := Aside0.mk (below_step (by repeat (first | (with_reducible first | exact HB.out | apply below_alloc | apply pw_below_drewN | apply below_drew1) | exact HB.out)) hb); clear HO_5; clear HB; have HO_5 := n0_; have HO131 := n1_; have HB := n2_; clear n0_ n1_ n2_; (try clear hb); (try clear hb2); (try clear hk); (try clear hi); (try clear ho0); obtain ⟨Ao30, co30, eo30⟩ := Kd.R_slice HO_5.out; subst eo30; obtain ⟨Ao31, co31, eo31⟩ := Kd.R_slice HO131.out; subst eo31)))
              go_loopg [76] kj5 (fun kq v76 w' => ∃ (x76_2 : Int), v76 = .int .i64 x76_2 ∧ Aside0 (boscagelaw20_LoadParts.l0 kq t124 t129 (t124.length : Int) x76_2 = some r) ∧ Aside0 (kq ≤ kj5) ∧ Aside0 (Kd.R (Kd.int .i64) 3 w' w.heap.size (fun k_ => some k_ ≠ ((.slice Ao31 t129.length co31) : Value).ownBlock) (.slice Ao30 t124.length co30) t124) ∧ Aside0 (Kd.R (Kd.int .i64) 3 w' w.heap.size (fun k_ => some k_ ≠ ((.slice Ao30 t124.length co30) : Value).ownBlock) (.slice Ao31 t129.length co31) t129) ∧ Aside0 (Below w.heap.size w w'))
              case atStart => exact ⟨(0), (by first | rfl | (simp; done) | (simp [*]; done)), H', ⟨Nat.le_refl _⟩, ⟨by (with_reducible repeat (first | apply Kd.R_alloc | apply Kd.R_drewN | apply Kd.R_drew)); exact Kd.R_mono HO_5.out (fun _ hk => hk.2)⟩, ⟨by (with_reducible repeat (first | apply Kd.R_alloc | apply Kd.R_drewN | apply Kd.R_drew)); exact Kd.R_mono HO131.out (fun _ hk => hk.2)⟩, ⟨by repeat (first | (with_reducible first | exact HB.out | apply below_alloc | apply pw_below_drewN | apply below_drew1) | exact HB.out)⟩⟩
              case round =>
                clear H'
                try clear c1
                try clear p1
                try clear q1
                try clear hx1
                try clear qi1
                try clear c2
                try clear p2
                try clear c3
                try clear c4
                try clear p6
                try clear c9
                try clear c9b0
                try clear c10
                try clear c10b0
                try clear c11
                try clear p12
                try clear q12
                try clear hx12
                try clear qi12
                try clear c13
                try clear c13b0
                try clear c14
                try clear c14b0
                try clear c14b1
                try clear c15
                try clear c15b0
                try clear c15b1
                try clear c16
                try clear c16b0
                try clear c16b1
                try clear c18
                try clear c18b0
                try clear c19
                try clear c19b0
                try clear c20
                try clear c20b0
                try clear c20b1
                try clear c20b2
                try clear c21
                try clear c21b0
                try clear c21b1
                try clear c22
                try clear c22b0
                try clear c22b1
                try clear c28
                try clear c28b0
                try clear c28b1
                try clear c28b2
                try clear hx127_0
                try clear hx128_0
                try clear p127
                try clear p128
                try clear p2
                try clear q127
                try clear q128
                obtain ⟨x76_2, rfl, HA, HK2, HO_5, HO_6, HB⟩ := hrel
                cases gk with
                | zero => exact absurd HA.out (by simp [boscagelaw20_LoadParts.l0])
                | succ k2 =>
                  have H := HA.out
                  clear HA
                  simp only [boscagelaw20_LoadParts.l0] at H
                  by_cases c32 : x76_2 < (t124.length : Int)
                  · rw [if_pos c32] at H
                    have c32b0 : decide (x76_2 < (t124.length : Int)) = true := decide_eq_true c32
                    clear c32
                    by_cases c33 : 0 ≤ x76_2
                    · rw [if_pos c33] at H
                      have c33b0 : decide (0 ≤ x76_2) = true := decide_eq_true c33
                      clear c33
                      by_cases c34 : x76_2 < (t124.length : Int)
                      · rw [if_pos c34] at H
                        have c34b0 : decide (x76_2 < (t124.length : Int)) = true := decide_eq_true c34
                        clear c34
                        by_cases c35 : x76_2 < (t129.length : Int)
                        · rw [if_pos c35] at H
                          have c35b0 : decide (x76_2 < (t129.length : Int)) = true := decide_eq_true c35
                          clear c35
                          by_cases c36 : (rd t124 x76_2) = (rd t129 x76_2)
                          · rw [if_pos c36] at H
                            have c36b0 : ((rd t124 x76_2) == (rd t129 x76_2)) = true := beq_iff_eq.mpr c36
                            have c36b1 : ((rd t124 x76_2) != (rd t129 x76_2)) = false := bne_eq_false_iff_eq.mpr c36
                            clear c36
                            have H' := Aside0.mk H
                            clear H
                            have p132 : 0 ≤ (x76_2 : Int) := of_decide_eq_true (by first | (with_reducible assumption) | assumption)
                            have q132 : x76_2 < (t124.length : Int) := of_decide_eq_true (by first | (with_reducible assumption) | assumption)
                            obtain ⟨ad132, e132, hx132_0⟩ := Kd.at_int (Kd.R_reads' HO_5.out).2.2 x76_2 p132 q132
                            cases e132
                            replace p132 := eq_true p132
                            replace q132 := eq_true q132
                            have p133 : 0 ≤ (x76_2 : Int) := of_decide_eq_true (by first | (with_reducible assumption) | assumption)
                            have q133 : x76_2 < (t129.length : Int) := of_decide_eq_true (by first | (with_reducible assumption) | assumption)
                            obtain ⟨ad133, e133, hx133_0⟩ := Kd.at_int (Kd.R_reads' HO_6.out).2.2 x76_2 p133 q133
                            cases e133
                            replace p133 := eq_true p133
                            replace q133 := eq_true q133
                            go_wp2
                            repeat (go_quiet (fail); try go_wp2)
                            go_roundg k2
                            case measure => have := HJ5.out; have := HK2.out; omega
                            case rel => exact ⟨(wrap64 (x76_2 + 1)), (by first | rfl | (simp; done) | (simp [*]; done)), H', ⟨by have := HJ5.out; have := HK2.out; omega⟩, ⟨by (with_reducible repeat (first | apply Kd.R_alloc | apply Kd.R_drewN | apply Kd.R_drew)); exact HO_5.out⟩, ⟨by (with_reducible repeat (first | apply Kd.R_alloc | apply Kd.R_drewN | apply Kd.R_drew)); exact HO_6.out⟩, ⟨by repeat (first | (with_reducible first | exact HB.out | apply below_alloc | apply pw_below_drewN | apply below_drew1) | exact HB.out)⟩⟩
                          · rw [if_neg c36] at H
                            have c36b0 : ((rd t124 x76_2) == (rd t129 x76_2)) = false := beq_eq_false_iff_ne.mpr c36
                            have c36b1 : ((rd t124 x76_2) != (rd t129 x76_2)) = true := bne_iff_ne.mpr c36
                            obtain rfl := Option.some.inj H
                            have p132 : 0 ≤ (x76_2 : Int) := of_decide_eq_true (by first | (with_reducible assumption) | assumption)
                            have q132 : x76_2 < (t124.length : Int) := of_decide_eq_true (by first | (with_reducible assumption) | assumption)
                            obtain ⟨ad132, e132, hx132_0⟩ := Kd.at_int (Kd.R_reads' HO_5.out).2.2 x76_2 p132 q132
                            cases e132
                            replace p132 := eq_true p132
                            replace q132 := eq_true q132
                            have p133 : 0 ≤ (x76_2 : Int) := of_decide_eq_true (by first | (with_reducible assumption) | assumption)
                            have q133 : x76_2 < (t129.length : Int) := of_decide_eq_true (by first | (with_reducible assumption) | assumption)
                            obtain ⟨ad133, e133, hx133_0⟩ := Kd.at_int (Kd.R_reads' HO_6.out).2.2 x76_2 p133 q133
                            cases e133
                            replace p133 := eq_true p133
                            replace q133 := eq_true q133
                            go_wp2
                            repeat (go_quiet (fail); try go_wp2)
                            go_ret
                            exact ⟨by first | rfl | (simp [errW_none, errW_some] <;> rfl) | (simp [*, errW_none, errW_some] <;> rfl), by repeat (first | (with_reducible first | exact HB.out | apply below_alloc | apply pw_below_drewN | apply below_drew1) | exact HB.out)⟩
                        · rw [if_neg c35] at H
                          exact absurd H (by simp)
                      · rw [if_neg c34] at H
                        exact absurd H (by simp)
                    · rw [if_neg c33] at H
                      exact absurd H (by simp)
                  · rw [if_neg c32] at H
                    have c32b0 : decide (x76_2 < (t124.length : Int)) = false := decide_eq_false c32
                    clear c32
                    obtain rfl := Option.some.inj H
                    go_wp2
                    repeat (go_quiet (fail); try go_wp2)
                    go_ret
                    exact ⟨by first | rfl | (simp [errW_none, errW_some] <;> rfl) | (simp [*, errW_none, errW_some] <;> rfl), by repeat (first | (with_reducible first | exact HB.out | apply below_alloc | apply pw_below_drewN | apply below_drew1) | exact HB.out)⟩
            · rw [if_neg c28] at H
              have c28b0 : ((t124.length : Int) == (t129.length : Int)) = false := beq_eq_false_iff_ne.mpr c28
              have c28b1 : ((t124.length : Int) != (t129.length : Int)) = true := bne_iff_ne.mpr c28
              have c28b2 : (t124.length == t129.length) = false := by first | simpa using c28 | (simp at c28 ⊢; omega)
              obtain rfl := Option.some.inj H
              go_wp2_with (first | (go_at_call 8; (with_reducible refine (boscagelaw11_Parts.calls kj5 a0 a1 t129 _ A27.out).mono ?_); rintro e w37 ⟨v130, rfl, ho0, hb⟩; have n0_ := Aside0.mk (Kd.R_elder' (by (with_reducible repeat (first | apply Kd.R_alloc | apply Kd.R_drewN | apply Kd.R_drew)); exact HO_5.out) (Kd.R_base ho0) hb); have n1_ := Aside0.mk (Kd.R_lower (Kd.R_new' ho0 (Kd.R_lt (by (with_reducible repeat (first | apply Kd.R_alloc | apply Kd.R_drewN | apply Kd.R_drew)); exact HO_5.out))) (below_size (by repeat (first | (with_reducible first | exact HB.out | apply below_alloc | apply pw_below_drewN | apply below_drew1) | exact HB.out)))); have n2_ := Aside0.mk (below_step (by repeat (first | (with_reducible first | exact HB.out | apply below_alloc | apply pw_below_drewN | apply below_drew1) | exact HB.out)) hb); clear HO_5; clear HB; have HO_5 := n0_; have HO131 := n1_; have HB := n2_; clear n0_ n1_ n2_; (try clear hb); (try clear hb2); (try clear hk); (try clear hi); (try clear ho0); obtain ⟨Ao38, co38, eo38⟩ := Kd.R_slice HO_5.out; subst eo38; obtain ⟨Ao39, co39, eo39⟩ := Kd.R_slice HO131.out; subst eo39))
              repeat (go_quiet (first | (go_at_call 8; (with_reducible refine (boscagelaw11_Parts.calls kj5 a0 a1 t129 _ A27.out).mono ?_); rintro e w37 ⟨v130, rfl, ho0, hb⟩; have n0_ := Aside0.mk (Kd.R_elder' (by (with_reducible repeat (first | apply Kd.R_alloc | apply Kd.R_drewN | apply Kd.R_drew)); exact HO_5.out) (Kd.R_base ho0) hb); have n1_ := Aside0.mk (Kd.R_lower (Kd.R_new' ho0 (Kd.R_lt (by (with_reducible repeat (first | apply Kd.R_alloc | apply Kd.R_drewN | apply Kd.R_drew)); exact HO_5.out))) (below_size (by repeat (first | (with_reducible first | exact HB.out | apply below_alloc | apply pw_below_drewN | apply below_drew1) | exact HB.out)))); have n2_ := Aside0.mk (below_step (by repeat (first | (with_reducible first | exact HB.out | apply below_alloc | apply pw_below_drewN | apply below_drew1) | exact HB.out)) hb); clear HO_5; clear HB; have HO_5 := n0_; have HO131 := n1_; have HB := n2_; clear n0_ n1_ n2_; (try clear hb); (try clear hb2); (try clear hk); (try clear hi); (try clear ho0); obtain ⟨Ao38, co38, eo38⟩ := Kd.R_slice HO_5.out; subst eo38; obtain ⟨Ao39, co39, eo39⟩ := Kd.R_slice HO131.out; subst eo39)); try go_wp2_with (first | (go_at_call 8; (with_reducible refine (boscagelaw11_Parts.calls kj5 a0 a1 t129 _ A27.out).mono ?_); rintro e w37 ⟨v130, rfl, ho0, hb⟩; have n0_ := Aside0.mk (Kd.R_elder' (by (with_reducible repeat (first | apply Kd.R_alloc | apply Kd.R_drewN | apply Kd.R_drew)); exact HO_5.out) (Kd.R_base ho0) hb); have n1_ := Aside0.mk (Kd.R_lower (Kd.R_new' ho0 (Kd.R_lt (by (with_reducible repeat (first | apply Kd.R_alloc | apply Kd.R_drewN | apply Kd.R_drew)); exact HO_5.out))) (below_size (by repeat (first | (with_reducible first | exact HB.out | apply below_alloc | apply pw_below_drewN | apply below_drew1) | exact HB.out)))); have n2_ := Aside0.mk (below_step (by repeat (first | (with_reducible first | exact HB.out | apply below_alloc | apply pw_below_drewN | apply below_drew1) | exact HB.out)) hb); clear HO_5; clear HB; have HO_5 := n0_; have HO131 := n1_; have HB := n2_; clear n0_ n1_ n2_; (try clear hb); (try clear hb2); (try clear hk); (try clear hi); (try clear ho0); obtain ⟨Ao38, co38, eo38⟩ := Kd.R_slice HO_5.out; subst eo38; obtain ⟨Ao39, co39, eo39⟩ := Kd.R_slice HO131.out; subst eo39)))
              go_ret
              exact ⟨by first | rfl | (simp [errW_none, errW_some] <;> rfl) | (simp [*, errW_none, errW_some] <;> rfl), by repeat (first | (with_reducible first | exact HB.out | apply below_alloc | apply pw_below_drewN | apply below_drew1) | exact HB.out)⟩
  · replace c4 := Bool.eq_false_iff.mpr c4
    subst c4
    have H1 : (some false) = some r := by rw [if_neg (show ¬ (false = true) by decide)] at H; exact H
    clear H
    have H := H1
    clear H1
    obtain rfl := Option.some.inj H
    go_enter Try.func3, Try.ntmps3
    go_wp2_with (first | (go_at_call 6; (with_reducible refine (boscagelaw20_Awake.calls k  false _ A3.out).mono ?_); rintro e w40 ⟨rfl, hb⟩; have n0_ := Aside0.mk (below_step (by repeat (first | (with_reducible first | exact HB.out | apply below_alloc | apply pw_below_drewN | apply below_drew1) | exact HB.out)) hb); clear HB; have HB := n0_; clear n0_; (try clear hb); (try clear hb2); (try clear hk); (try clear hi)))
    repeat (go_quiet (first | (go_at_call 6; (with_reducible refine (boscagelaw20_Awake.calls k  false _ A3.out).mono ?_); rintro e w40 ⟨rfl, hb⟩; have n0_ := Aside0.mk (below_step (by repeat (first | (with_reducible first | exact HB.out | apply below_alloc | apply pw_below_drewN | apply below_drew1) | exact HB.out)) hb); clear HB; have HB := n0_; clear n0_; (try clear hb); (try clear hb2); (try clear hk); (try clear hi))); try go_wp2_with (first | (go_at_call 6; (with_reducible refine (boscagelaw20_Awake.calls k  false _ A3.out).mono ?_); rintro e w40 ⟨rfl, hb⟩; have n0_ := Aside0.mk (below_step (by repeat (first | (with_reducible first | exact HB.out | apply below_alloc | apply pw_below_drewN | apply below_drew1) | exact HB.out)) hb); clear HB; have HB := n0_; clear n0_; (try clear hb); (try clear hb2); (try clear hk); (try clear hi))))
    go_ret
    exact ⟨by first | rfl | (simp [errW_none, errW_some] <;> rfl) | (simp [*, errW_none, errW_some] <;> rfl), by repeat (first | (with_reducible first | exact HB.out | apply below_alloc | apply pw_below_drewN | apply below_drew1) | exact HB.out)⟩

/-- THE ONE PURE STATEMENT of boscagelaw20_LoadParts: yours. -/
def boscagelaw20_LoadParts.Pure : Prop := ∀ (a0 : Int) (a1 : Int), (Lit.int .i64 a0).wf = true → (Lit.int .i64 a1).wf = true → ∃ k, boscagelaw20_LoadParts.f k a0 a1 = some true
theorem boscagelaw20_LoadParts.walk (P : boscagelaw20_LoadParts.Pure) (a0 : Int) (a1 : Int) (w : World) (w0 : (Lit.int .i64 a0).wf = true) (w1 : (Lit.int .i64 a1).wf = true) :
    Calls Try.prog 3 #[.int .i64 a0, .int .i64 a1] w fun e w' => e = .returned (.bool true) ∧ Below w.heap.size w w' := by
  obtain ⟨k, h⟩ := P a0 a1 w0 w1
  refine (boscagelaw20_LoadParts.calls k a0 a1 true w h).mono ?_
  rintro e w' ⟨rfl, hd⟩
  exact ⟨rfl, hd⟩

end Go.Proofs.Ytfhnlgafdgnbgaa.PLoadParts
