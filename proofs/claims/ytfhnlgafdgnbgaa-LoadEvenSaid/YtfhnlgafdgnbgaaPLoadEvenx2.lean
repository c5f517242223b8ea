-- PRINTED BY print.sh 35421559b90ae4d0a3588c463048766b98c2df88dd9212a6774a882060cdf62d: not written by this session
import Derived.Test.YtfhnlgafdgnbgaaPLoadEvenx0
import Derived.Test.YtfhnlgafdgnbgaaPLoadEvenx1
namespace Go.Proofs.Ytfhnlgafdgnbgaa.PLoadEven
open Go.RowKit Go.Proofs.YtfhnlgafdgnbgaaW.PrintWords Go.Proofs.YtfhnlgafdgnbgaaW.PrintLast Go.Proofs.YtfhnlgafdgnbgaaW.PrintMore
attribute [local go_sem] max2_int min2_int max_two min_two max_three min_three max_four min_four   -- for this text's walks alone
set_option linter.unusedVariables false
set_option linter.unusedSimpArgs false

/-! ### boscagelaw20_LoadEven: function 4 -/
mutual
def boscagelaw20_LoadEven.j0 : Nat → Int → Int → Bool → Option (Bool)
  | 0, _, _, _ => none
  | k + 1, x0, x1, x16 => if x16 = true then (some true) else ((load_Parts.f k (wrap64 (x0)) (wrap64 (x1))).bind fun t121 => (boscagelaw20_LoadEven.l0 k x0 x1 t121 0 t121 (t121.length : Int) 0))
def boscagelaw20_LoadEven.l0 : Nat → Int → Int → List Int → Int → List Int → Int → Int → Option (Bool)
  | 0, _, _, _, _, _, _, _ => none
  | k + 1, x0, x1, x5, x6, x22, x23, x24 => if x24 < x23 then (if 0 ≤ x24 then (if x24 < (x22.length : Int) then (if (rd x22 x24) < 1 then (some false) else (if (rd x22 x24) > (wrap64 (x1)) then (some false) else (if x24 > 0 then (if 0 ≤ (wrap64 (x24 - 1)) then (if (wrap64 (x24 - 1)) < (x5.length : Int) then (if (rd x22 x24) > (rd x5 (wrap64 (x24 - 1))) then (some false) else (if 0 < (x5.length : Int) then (if (rd x22 x24) < (wrap64 ((rd x5 0) - 1)) then (some false) else (boscagelaw20_LoadEven.l0 k x0 x1 x5 (wrap64 (x6 + (rd x22 x24))) x22 x23 (wrap64 (x24 + 1)))) else (none))) else (none)) else (none)) else (if 0 < (x5.length : Int) then (if (rd x22 x24) < (wrap64 ((rd x5 0) - 1)) then (some false) else (boscagelaw20_LoadEven.l0 k x0 x1 x5 (wrap64 (x6 + (rd x22 x24))) x22 x23 (wrap64 (x24 + 1)))) else (none))))) else (none)) else (none)) else (if x6 = (wrap64 (x0)) then (some (decide ((wrap64 ((wrap64 ((x5.length : Int) - 1)) * (wrap64 (x1)))) < (wrap64 (x0))))) else (some false))
end
def boscagelaw20_LoadEven.f (k : Nat) (a0 : Int) (a1 : Int) : Option (Bool) := (boscagelaw20_Awake.f k).bind fun t120 => (if t120 = true then (if a0 = 0 then (boscagelaw20_LoadEven.j0 k a0 a1 true) else (boscagelaw20_LoadEven.j0 k a0 a1 (a1 == 0))) else (some false))
theorem boscagelaw20_LoadEven.mono_l : ∀ k, (∀ y0 y1 y2, LeO (boscagelaw20_LoadEven.j0 k y0 y1 y2) (boscagelaw20_LoadEven.j0 (k + 1) y0 y1 y2)) ∧ (∀ y0 y1 y2 y3 y4 y5 y6, LeO (boscagelaw20_LoadEven.l0 k y0 y1 y2 y3 y4 y5 y6) (boscagelaw20_LoadEven.l0 (k + 1) y0 y1 y2 y3 y4 y5 y6))
  | 0 => ⟨fun _ _ _ r h => by simp [boscagelaw20_LoadEven.j0] at h, fun _ _ _ _ _ _ _ r h => by simp [boscagelaw20_LoadEven.l0] at h⟩
  | k + 1 => by
    obtain ⟨ih0, ih1⟩ := boscagelaw20_LoadEven.mono_l k
    refine ⟨?_, ?_⟩
    · intro y0 y1 y2
      unfold boscagelaw20_LoadEven.j0
      repeat' first
      | (with_reducible exact ih0 _ _ _)
      | (with_reducible exact ih1 _ _ _ _ _ _ _)
      | (with_reducible exact boscagelaw20_Awake.mono _)
      | (with_reducible exact load_Parts.mono _ _ _)
      | (with_reducible exact LeO.refl _)
      | (with_reducible exact LeO.none _)
      | (with_reducible refine LeO.ite ?_ ?_)
      | (with_reducible refine LeO.bind ?_ (fun _ => ?_))
      | exact ih0 _ _ _
      | exact ih1 _ _ _ _ _ _ _
      | exact boscagelaw20_Awake.mono _
      | exact load_Parts.mono _ _ _
      | exact LeO.none _
      | refine LeO.ite ?_ ?_
      | refine LeO.bind ?_ (fun _ => ?_)
    · intro y0 y1 y2 y3 y4 y5 y6
      unfold boscagelaw20_LoadEven.l0
      repeat' first
      | (with_reducible exact ih0 _ _ _)
      | (with_reducible exact ih1 _ _ _ _ _ _ _)
      | (with_reducible exact boscagelaw20_Awake.mono _)
      | (with_reducible exact load_Parts.mono _ _ _)
      | (with_reducible exact LeO.refl _)
      | (with_reducible exact LeO.none _)
      | (with_reducible refine LeO.ite ?_ ?_)
      | (with_reducible refine LeO.bind ?_ (fun _ => ?_))
      | exact ih0 _ _ _
      | exact ih1 _ _ _ _ _ _ _
      | exact boscagelaw20_Awake.mono _
      | exact load_Parts.mono _ _ _
      | exact LeO.none _
      | refine LeO.ite ?_ ?_
      | refine LeO.bind ?_ (fun _ => ?_)
theorem boscagelaw20_LoadEven.mono : ∀ a0 a1 k, LeO (boscagelaw20_LoadEven.f k a0 a1) (boscagelaw20_LoadEven.f (k + 1) a0 a1) := by
  intro a0 a1 k
  obtain ⟨ih0, ih1⟩ := boscagelaw20_LoadEven.mono_l k
  unfold boscagelaw20_LoadEven.f
  repeat' first
      | (with_reducible exact ih0 _ _ _)
      | (with_reducible exact ih1 _ _ _ _ _ _ _)
      | (with_reducible exact boscagelaw20_Awake.mono _)
      | (with_reducible exact load_Parts.mono _ _ _)
      | (with_reducible exact LeO.refl _)
      | (with_reducible exact LeO.none _)
      | (with_reducible refine LeO.ite ?_ ?_)
      | (with_reducible refine LeO.bind ?_ (fun _ => ?_))
      | exact ih0 _ _ _
      | exact ih1 _ _ _ _ _ _ _
      | exact boscagelaw20_Awake.mono _
      | exact load_Parts.mono _ _ _
      | exact LeO.none _
      | refine LeO.ite ?_ ?_
      | refine LeO.bind ?_ (fun _ => ?_)
set_option maxHeartbeats 8000000 in
set_option maxRecDepth 100000 in
theorem boscagelaw20_LoadEven.calls (k : Nat) (a0 : Int) (a1 : Int) (r : Bool) (w : World) (h : boscagelaw20_LoadEven.f k a0 a1 = some r) :
    Calls Try.prog 4 #[.int .u16 a0, .int .u16 a1] w fun e w' => e = .returned (.bool r) ∧ Below w.heap.size w w' := by
  have HB := Aside0.mk (Below.refl w.heap.size w)
  have H : ((boscagelaw20_Awake.f k).bind fun t120 => (if t120 = true then (if a0 = 0 then (boscagelaw20_LoadEven.j0 k a0 a1 true) else (boscagelaw20_LoadEven.j0 k a0 a1 (a1 == 0))) else (some false))) = some r := h
  clear h
  replace H := Option.bind_eq_some_iff.mp H
  obtain ⟨t120, A30, H⟩ := H
  replace H : (if t120 = true then (if a0 = 0 then (boscagelaw20_LoadEven.j0 k a0 a1 true) else (boscagelaw20_LoadEven.j0 k a0 a1 (a1 == 0))) else (some false)) = some r := H
  have A3 := Aside0.mk A30
  clear A30
  by_cases c4 : t120 = true
  · subst c4
    have H1 : (if a0 = 0 then (boscagelaw20_LoadEven.j0 k a0 a1 true) else (boscagelaw20_LoadEven.j0 k a0 a1 (a1 == 0))) = some r := by rw [if_pos rfl] at H; exact H
    clear H
    have H := H1
    clear H1
    have HC5 := Aside0.mk H
    clear H
    go_enter Try.func4, Try.ntmps4
    go_upto_region 3 with (first | ((with_reducible refine gate_callee (f := 6) rfl ?_); refine goesL_ (some 9) rfl rfl Try.func6 (by kernel_rfl) rfl #[] rfl (by (try simp only [List.map_toArray, List.map_cons, List.map_nil]); first | done | rfl | (simp only [List.length_drop, List.length_take]; rfl)) ?_; (with_reducible refine (boscagelaw20_Awake.calls k  true _ A3.out).mono ?_); rintro e w6 ⟨rfl, hb⟩; refine ⟨_, rfl, ?_⟩; have n0_ := Aside0.mk (below_step (by repeat (first | (with_reducible first | exact HB.out | apply below_alloc | apply pw_below_drewN | apply below_drew1) | exact HB.out)) hb); clear HB; have HB := n0_; clear n0_; (try clear hb); (try clear hb2); (try clear hk); (try clear hi)))
    (try simp only [Act.put, List.setIfInBounds_toArray, List.set_cons_zero, List.set_cons_succ])
    go_cut [16] (fun v16 wc => ∃ (kq : Nat) (x16_4 : Bool), v16 = .bool x16_4 ∧ Aside0 (boscagelaw20_LoadEven.j0 kq a0 a1 x16_4 = some r) ∧ Aside0 (kq ≤ k) ∧ Aside0 (Below w.heap.size w wc))
    case first =>
      have H := HC5.out
      clear HC5
      by_cases c7 : a0 = 0
      · rw [if_pos c7] at H
        have c7b0 : (a0 == 0) = true := beq_iff_eq.mpr c7
        have c7b1 : (a0 != 0) = false := bne_eq_false_iff_eq.mpr c7
        clear c7
        (first | rw [c7b0] | (simp only [i64_w, i32_w]; rw [c7b0]) | skip)
        have H' := Aside0.mk H
        clear H
        go_wp2
        go_meet
        case rel => exact ⟨_, (true), (by first | rfl | (simp; done) | (simp [*]; done)), H', ⟨by first | omega | exact Nat.le_refl _⟩, ⟨by repeat (first | (with_reducible first | exact HB.out | apply below_alloc | apply pw_below_drewN | apply below_drew1) | exact HB.out)⟩⟩
      · rw [if_neg c7] at H
        have c7b0 : (a0 == 0) = false := beq_eq_false_iff_ne.mpr c7
        have c7b1 : (a0 != 0) = true := bne_iff_ne.mpr c7
        (first | rw [c7b0] | (simp only [i64_w, i32_w]; rw [c7b0]) | skip)
        have H' := Aside0.mk H
        clear H
        go_wp2
        go_meet
        case rel => exact ⟨_, ((a1 == 0)), (by first | rfl | (simp; done) | (simp [*]; done)), H', ⟨by first | omega | exact Nat.le_refl _⟩, ⟨by repeat (first | (with_reducible first | exact HB.out | apply below_alloc | apply pw_below_drewN | apply below_drew1) | exact HB.out)⟩⟩
    case rest =>
      clear HC5
      try clear p2
      try clear c4
      try clear c6
      try clear c7
      try clear c7b0
      try clear c7b1
      obtain ⟨kq, x16_4, rfl, HA, HJ4, HB⟩ := hcut
      cases kq with
      | zero => exact absurd HA.out (by simp [boscagelaw20_LoadEven.j0])
      | succ kj4 =>
        have H := HA.out
        clear HA
        simp only [boscagelaw20_LoadEven.j0] at H
        by_cases c8 : x16_4 = true
        · subst c8
          have H1 : (some true) = some r := by rw [if_pos rfl] at H; exact H
          clear H
          have H := H1
          clear H1
          obtain rfl := Option.some.inj H
          go_wp2
          go_ret
          exact ⟨by first | rfl | (simp [errW_none, errW_some] <;> rfl) | (simp [*, errW_none, errW_some] <;> rfl), by repeat (first | (with_reducible first | exact HB.out | apply below_alloc | apply pw_below_drewN | apply below_drew1) | exact HB.out)⟩
        · replace c8 := Bool.eq_false_iff.mpr c8
          subst c8
          have H1 : ((load_Parts.f kj4 (wrap64 (a0)) (wrap64 (a1))).bind fun t121 => (boscagelaw20_LoadEven.l0 kj4 a0 a1 t121 0 t121 (t121.length : Int) 0)) = some r := by rw [if_neg (show ¬ (false = true) by decide)] at H; exact H
          clear H
          have H := H1
          clear H1
          replace H := Option.bind_eq_some_iff.mp H
          obtain ⟨t121, A90, H⟩ := H
          replace H : (boscagelaw20_LoadEven.l0 kj4 a0 a1 t121 0 t121 (t121.length : Int) 0) = some r := H
          have A9 := Aside0.mk A90
          clear A90
          have H' := Aside0.mk H
          clear H
          go_wp2_with (first | ((with_reducible refine gate_callee (f := 7) rfl ?_); refine goesL_ (some 21) rfl rfl Try.func7 (by kernel_rfl) rfl #[.int .i64 (wrap64 (a0)), .int .i64 (wrap64 (a1))] rfl (by (try simp only [List.map_toArray, List.map_cons, List.map_nil]); first | done | rfl | (simp only [List.length_drop, List.length_take]; rfl)) ?_; (with_reducible refine (load_Parts.calls kj4 (wrap64 (a0)) (wrap64 (a1)) t121 _ A9.out).mono ?_); rintro e w10 ⟨v122, rfl, ho0, hb⟩; refine ⟨_, rfl, ?_⟩; have n0_ := Aside0.mk (Kd.R_lower ho0 (below_size (by repeat (first | (with_reducible first | exact HB.out | apply below_alloc | apply pw_below_drewN | apply below_drew1) | exact HB.out)))); have n1_ := Aside0.mk (below_step (by repeat (first | (with_reducible first | exact HB.out | apply below_alloc | apply pw_below_drewN | apply below_drew1) | exact HB.out)) hb); clear HB; have HO123 := n0_; have HB := n1_; clear n0_ n1_; (try clear hb); (try clear hb2); (try clear hk); (try clear hi); (try clear ho0); obtain ⟨Ao11, co11, eo11⟩ := Kd.R_slice HO123.out; subst eo11))
          go_loopg [6, 24] kj4 (fun kq v6 v24 w' => ∃ (x6_2 : Int) (x24_2 : Int), v6 = .int .i64 x6_2 ∧ v24 = .int .i64 x24_2 ∧ Aside0 (boscagelaw20_LoadEven.l0 kq a0 a1 t121 x6_2 t121 (t121.length : Int) x24_2 = some r) ∧ Aside0 (kq ≤ kj4) ∧ Aside0 (Kd.R (Kd.int .i64) 3 w' w.heap.size (fun _ => True) (.slice Ao11 t121.length co11) t121) ∧ Aside0 (Kd.R (Kd.int .i64) 3 w' w.heap.size (fun _ => True) (.slice Ao11 t121.length co11) t121) ∧ Aside0 (Below w.heap.size w w'))
          case atStart => exact ⟨(0), (0), (by first | rfl | (simp; done) | (simp [*]; done)), (by first | rfl | (simp; done) | (simp [*]; done)), H', ⟨Nat.le_refl _⟩, ⟨by (with_reducible repeat (first | apply Kd.R_alloc | apply Kd.R_drewN | apply Kd.R_drew)); exact HO123.out⟩, ⟨by (with_reducible repeat (first | apply Kd.R_alloc | apply Kd.R_drewN | apply Kd.R_drew)); exact HO123.out⟩, ⟨by repeat (first | (with_reducible first | exact HB.out | apply below_alloc | apply pw_below_drewN | apply below_drew1) | exact HB.out)⟩⟩
          case round =>
            clear H'
            try clear p2
            try clear c4
            try clear c6
            try clear p6
            try clear c7
            try clear c7b0
            try clear c7b1
            try clear c8
            try clear p2
            obtain ⟨x6_2, x24_2, rfl, rfl, HA, HK2, HO_5, HO_22, HB⟩ := hrel
            cases gk with
            | zero => exact absurd HA.out (by simp [boscagelaw20_LoadEven.l0])
            | succ k2 =>
              have H := HA.out
              clear HA
              simp only [boscagelaw20_LoadEven.l0] at H
              by_cases c12 : x24_2 < (t121.length : Int)
              · rw [if_pos c12] at H
                have c12b0 : decide (x24_2 < (t121.length : Int)) = true := decide_eq_true c12
                clear c12
                by_cases c13 : 0 ≤ x24_2
                · rw [if_pos c13] at H
                  have c13b0 : decide (0 ≤ x24_2) = true := decide_eq_true c13
                  clear c13
                  by_cases c14 : x24_2 < (t121.length : Int)
                  · rw [if_pos c14] at H
                    have c14b0 : decide (x24_2 < (t121.length : Int)) = true := decide_eq_true c14
                    clear c14
                    by_cases c15 : (rd t121 x24_2) < 1
                    · rw [if_pos c15] at H
                      have c15b0 : decide ((rd t121 x24_2) < 1) = true := decide_eq_true c15
                      clear c15
                      obtain rfl := Option.some.inj H
                      have p124 : 0 ≤ (x24_2 : Int) := of_decide_eq_true (by first | (with_reducible assumption) | assumption)
                      have q124 : x24_2 < (t121.length : Int) := of_decide_eq_true (by first | (with_reducible assumption) | assumption)
                      obtain ⟨ad124, e124, hx124_0⟩ := Kd.at_int (Kd.R_reads' HO_22.out).2.2 x24_2 p124 q124
                      cases e124
                      replace p124 := eq_true p124
                      replace q124 := eq_true q124
                      go_wp2
                      go_ret
                      exact ⟨by first | rfl | (simp [errW_none, errW_some] <;> rfl) | (simp [*, errW_none, errW_some] <;> rfl), by repeat (first | (with_reducible first | exact HB.out | apply below_alloc | apply pw_below_drewN | apply below_drew1) | exact HB.out)⟩
                    · rw [if_neg c15] at H
                      have c15b0 : decide ((rd t121 x24_2) < 1) = false := decide_eq_false c15
                      clear c15
                      by_cases c16 : (rd t121 x24_2) > (wrap64 (a1))
                      · rw [if_pos c16] at H
                        have c16b0 : decide ((wrap64 (a1)) < (rd t121 x24_2)) = true := decide_eq_true c16
                        clear c16
                        obtain rfl := Option.some.inj H
                        have p124 : 0 ≤ (x24_2 : Int) := of_decide_eq_true (by first | (with_reducible assumption) | assumption)
                        have q124 : x24_2 < (t121.length : Int) := of_decide_eq_true (by first | (with_reducible assumption) | assumption)
                        obtain ⟨ad124, e124, hx124_0⟩ := Kd.at_int (Kd.R_reads' HO_22.out).2.2 x24_2 p124 q124
                        cases e124
                        replace p124 := eq_true p124
                        replace q124 := eq_true q124
                        go_wp2
                        go_ret
                        exact ⟨by first | rfl | (simp [errW_none, errW_some] <;> rfl) | (simp [*, errW_none, errW_some] <;> rfl), by repeat (first | (with_reducible first | exact HB.out | apply below_alloc | apply pw_below_drewN | apply below_drew1) | exact HB.out)⟩
                      · rw [if_neg c16] at H
                        have c16b0 : decide ((wrap64 (a1)) < (rd t121 x24_2)) = false := decide_eq_false c16
                        clear c16
                        by_cases c17 : x24_2 > 0
                        · rw [if_pos c17] at H
                          have c17b0 : decide (0 < x24_2) = true := decide_eq_true c17
                          clear c17
                          obtain ⟨ji18, hji18⟩ : ∃ j_ : Int, (wrap64 (x24_2 - 1)) = j_ := ⟨_, rfl⟩
                          replace H : (if 0 ≤ (ji18) then (if (ji18) < (t121.length : Int) then (if (rd t121 x24_2) > (rd t121 (ji18)) then (some false) else (if 0 < (t121.length : Int) then (if (rd t121 x24_2) < (wrap64 ((rd t121 0) - 1)) then (some false) else (boscagelaw20_LoadEven.l0 k2 a0 a1 t121 (wrap64 (x6_2 + (rd t121 x24_2))) t121 (t121.length : Int) (wrap64 (x24_2 + 1)))) else (none))) else (none)) else (none)) = some r := by first | (rw [hji18] at H; exact H) | (simp only [hji18] at H ⊢; exact H)
                          have hji18w : (IntKind.i64.wrap (x24_2 - 1)) = ji18 := (i64_w _).trans hji18
                          by_cases c19 : 0 ≤ (ji18)
                          · rw [if_pos c19] at H
                            have c19b0 : decide (0 ≤ (ji18)) = true := decide_eq_true c19
                            clear c19
                            by_cases c20 : (ji18) < (t121.length : Int)
                            · rw [if_pos c20] at H
                              have c20b0 : decide ((ji18) < (t121.length : Int)) = true := decide_eq_true c20
                              clear c20
                              by_cases c21 : (rd t121 x24_2) > (rd t121 (ji18))
                              · rw [if_pos c21] at H
                                have c21b0 : decide ((rd t121 (ji18)) < (rd t121 x24_2)) = true := decide_eq_true c21
                                clear c21
                                obtain rfl := Option.some.inj H
                                have p124 : 0 ≤ (x24_2 : Int) := of_decide_eq_true (by first | (with_reducible assumption) | assumption)
                                have q124 : x24_2 < (t121.length : Int) := of_decide_eq_true (by first | (with_reducible assumption) | assumption)
                                obtain ⟨ad124, e124, hx124_0⟩ := Kd.at_int (Kd.R_reads' HO_22.out).2.2 x24_2 p124 q124
                                cases e124
                                replace p124 := eq_true p124
                                replace q124 := eq_true q124
                                have p125 : 0 ≤ ((ji18) : Int) := of_decide_eq_true (by first | (with_reducible assumption) | assumption)
                                have q125 : (ji18) < (t121.length : Int) := of_decide_eq_true (by first | (with_reducible assumption) | assumption)
                                obtain ⟨ad125, e125, hx125_0⟩ := Kd.at_int (Kd.R_reads' HO_5.out).2.2 (ji18) p125 q125
                                obtain rfl : ad124 = ad125 := (by injection e125)
                                replace p125 := eq_true p125
                                replace q125 := eq_true q125
                                go_wp2
                                go_ret
                                exact ⟨by first | rfl | (simp [errW_none, errW_some] <;> rfl) | (simp only [← hji18]; first | rfl | (simp [errW_none, errW_some] <;> rfl)) | (simp [*, errW_none, errW_some] <;> rfl), by repeat (first | (with_reducible first | exact HB.out | apply below_alloc | apply pw_below_drewN | apply below_drew1) | exact HB.out)⟩
                              · rw [if_neg c21] at H
                                have c21b0 : decide ((rd t121 (ji18)) < (rd t121 x24_2)) = false := decide_eq_false c21
                                clear c21
                                by_cases c22 : 0 < (t121.length : Int)
                                · rw [if_pos c22] at H
                                  have c22b0 : decide (0 < (t121.length : Int)) = true := decide_eq_true c22
                                  have c22b1 : decide (0 < t121.length) = true := decide_eq_true (by omega)
                                  clear c22
                                  by_cases c23 : (rd t121 x24_2) < (wrap64 ((rd t121 0) - 1))
                                  · rw [if_pos c23] at H
                                    have c23b0 : decide ((rd t121 x24_2) < (wrap64 ((rd t121 0) - 1))) = true := decide_eq_true c23
                                    clear c23
                                    obtain rfl := Option.some.inj H
                                    have p124 : 0 ≤ (x24_2 : Int) := of_decide_eq_true (by first | (with_reducible assumption) | assumption)
                                    have q124 : x24_2 < (t121.length : Int) := of_decide_eq_true (by first | (with_reducible assumption) | assumption)
                                    obtain ⟨ad124, e124, hx124_0⟩ := Kd.at_int (Kd.R_reads' HO_22.out).2.2 x24_2 p124 q124
                                    cases e124
                                    replace p124 := eq_true p124
                                    replace q124 := eq_true q124
                                    have p125 : 0 ≤ ((ji18) : Int) := of_decide_eq_true (by first | (with_reducible assumption) | assumption)
                                    have q125 : (ji18) < (t121.length : Int) := of_decide_eq_true (by first | (with_reducible assumption) | assumption)
                                    obtain ⟨ad125, e125, hx125_0⟩ := Kd.at_int (Kd.R_reads' HO_5.out).2.2 (ji18) p125 q125
                                    obtain rfl : ad124 = ad125 := (by injection e125)
                                    replace p125 := eq_true p125
                                    replace q125 := eq_true q125
                                    have p126 : 0 ≤ (0 : Int) := (by omega)
                                    have q126 : 0 < (t121.length : Int) := of_decide_eq_true (by first | (with_reducible assumption) | assumption)
                                    obtain ⟨ad126, e126, hx126_0⟩ := Kd.at_int (Kd.R_reads' HO_5.out).2.2 0 p126 q126
                                    obtain rfl : ad124 = ad126 := (by injection e126)
                                    have qi126 : (0 < t121.length) = True := eq_true (by omega)
                                    (try rw [show ((0 : Int)).toNat = 0 from rfl] at hx126_0)
                                    (try rw [Addr.add_zero'] at hx126_0)
                                    replace p126 := eq_true p126
                                    replace q126 := eq_true q126
                                    go_wp2
                                    go_ret
                                    exact ⟨by first | rfl | (simp [errW_none, errW_some] <;> rfl) | (simp only [← hji18]; first | rfl | (simp [errW_none, errW_some] <;> rfl)) | (simp [*, errW_none, errW_some] <;> rfl), by repeat (first | (with_reducible first | exact HB.out | apply below_alloc | apply pw_below_drewN | apply below_drew1) | exact HB.out)⟩
                                  · rw [if_neg c23] at H
                                    have c23b0 : decide ((rd t121 x24_2) < (wrap64 ((rd t121 0) - 1))) = false := decide_eq_false c23
                                    clear c23
                                    have H' := Aside0.mk H
                                    clear H
                                    have p124 : 0 ≤ (x24_2 : Int) := of_decide_eq_true (by first | (with_reducible assumption) | assumption)
                                    have q124 : x24_2 < (t121.length : Int) := of_decide_eq_true (by first | (with_reducible assumption) | assumption)
                                    obtain ⟨ad124, e124, hx124_0⟩ := Kd.at_int (Kd.R_reads' HO_22.out).2.2 x24_2 p124 q124
                                    cases e124
                                    replace p124 := eq_true p124
                                    replace q124 := eq_true q124
                                    have p125 : 0 ≤ ((ji18) : Int) := of_decide_eq_true (by first | (with_reducible assumption) | assumption)
                                    have q125 : (ji18) < (t121.length : Int) := of_decide_eq_true (by first | (with_reducible assumption) | assumption)
                                    obtain ⟨ad125, e125, hx125_0⟩ := Kd.at_int (Kd.R_reads' HO_5.out).2.2 (ji18) p125 q125
                                    obtain rfl : ad124 = ad125 := (by injection e125)
                                    replace p125 := eq_true p125
                                    replace q125 := eq_true q125
                                    have p126 : 0 ≤ (0 : Int) := (by omega)
                                    have q126 : 0 < (t121.length : Int) := of_decide_eq_true (by first | (with_reducible assumption) | assumption)
                                    obtain ⟨ad126, e126, hx126_0⟩ := Kd.at_int (Kd.R_reads' HO_5.out).2.2 0 p126 q126
                                    obtain rfl : ad124 = ad126 := (by injection e126)
                                    have qi126 : (0 < t121.length) = True := eq_true (by omega)
                                    (try rw [show ((0 : Int)).toNat = 0 from rfl] at hx126_0)
                                    (try rw [Addr.add_zero'] at hx126_0)
                                    replace p126 := eq_true p126
                                    replace q126 := eq_true q126
                                    go_wp2
                                    go_roundg k2
                                    case measure => have := HJ4.out; have := HK2.out; omega
                                    case rel => exact ⟨(wrap64 (x6_2 + (rd t121 x24_2))), (wrap64 (x24_2 + 1)), (by first | rfl | (simp; done) | (simp [*]; done)), (by first | rfl | (simp; done) | (simp [*]; done)), H', ⟨by have := HJ4.out; have := HK2.out; omega⟩, ⟨by (with_reducible repeat (first | apply Kd.R_alloc | apply Kd.R_drewN | apply Kd.R_drew)); exact HO_5.out⟩, ⟨by (with_reducible repeat (first | apply Kd.R_alloc | apply Kd.R_drewN | apply Kd.R_drew)); exact HO_22.out⟩, ⟨by repeat (first | (with_reducible first | exact HB.out | apply below_alloc | apply pw_below_drewN | apply below_drew1) | exact HB.out)⟩⟩
                                · rw [if_neg c22] at H
                                  exact absurd H (by simp)
                            · rw [if_neg c20] at H
                              exact absurd H (by simp)
                          · rw [if_neg c19] at H
                            exact absurd H (by simp)
                        · rw [if_neg c17] at H
                          have c17b0 : decide (0 < x24_2) = false := decide_eq_false c17
                          clear c17
                          by_cases c24 : 0 < (t121.length : Int)
                          · rw [if_pos c24] at H
                            have c24b0 : decide (0 < (t121.length : Int)) = true := decide_eq_true c24
                            have c24b1 : decide (0 < t121.length) = true := decide_eq_true (by omega)
                            clear c24
                            by_cases c25 : (rd t121 x24_2) < (wrap64 ((rd t121 0) - 1))
                            · rw [if_pos c25] at H
                              have c25b0 : decide ((rd t121 x24_2) < (wrap64 ((rd t121 0) - 1))) = true := decide_eq_true c25
                              clear c25
                              obtain rfl := Option.some.inj H
                              have p124 : 0 ≤ (x24_2 : Int) := of_decide_eq_true (by first | (with_reducible assumption) | assumption)
                              have q124 : x24_2 < (t121.length : Int) := of_decide_eq_true (by first | (with_reducible assumption) | assumption)
                              obtain ⟨ad124, e124, hx124_0⟩ := Kd.at_int (Kd.R_reads' HO_22.out).2.2 x24_2 p124 q124
                              cases e124
                              replace p124 := eq_true p124
                              replace q124 := eq_true q124
                              have p127 : 0 ≤ (0 : Int) := (by omega)
                              have q127 : 0 < (t121.length : Int) := of_decide_eq_true (by first | (with_reducible assumption) | assumption)
                              obtain ⟨ad127, e127, hx127_0⟩ := Kd.at_int (Kd.R_reads' HO_5.out).2.2 0 p127 q127
                              obtain rfl : ad124 = ad127 := (by injection e127)
                              have qi127 : (0 < t121.length) = True := eq_true (by omega)
                              (try rw [show ((0 : Int)).toNat = 0 from rfl] at hx127_0)
                              (try rw [Addr.add_zero'] at hx127_0)
                              replace p127 := eq_true p127
                              replace q127 := eq_true q127
                              go_wp2
                              go_ret
                              exact ⟨by first | rfl | (simp [errW_none, errW_some] <;> rfl) | (simp [*, errW_none, errW_some] <;> rfl), by repeat (first | (with_reducible first | exact HB.out | apply below_alloc | apply pw_below_drewN | apply below_drew1) | exact HB.out)⟩
                            · rw [if_neg c25] at H
                              have c25b0 : decide ((rd t121 x24_2) < (wrap64 ((rd t121 0) - 1))) = false := decide_eq_false c25
                              clear c25
                              have H' := Aside0.mk H
                              clear H
                              have p124 : 0 ≤ (x24_2 : Int) := of_decide_eq_true (by first | (with_reducible assumption) | assumption)
                              have q124 : x24_2 < (t121.length : Int) := of_decide_eq_true (by first | (with_reducible assumption) | assumption)
                              obtain ⟨ad124, e124, hx124_0⟩ := Kd.at_int (Kd.R_reads' HO_22.out).2.2 x24_2 p124 q124
                              cases e124
                              replace p124 := eq_true p124
                              replace q124 := eq_true q124
                              have p127 : 0 ≤ (0 : Int) := (by omega)
                              have q127 : 0 < (t121.length : Int) := of_decide_eq_true (by first | (with_reducible assumption) | assumption)
                              obtain ⟨ad127, e127, hx127_0⟩ := Kd.at_int (Kd.R_reads' HO_5.out).2.2 0 p127 q127
                              obtain rfl : ad124 = ad127 := (by injection e127)
                              have qi127 : (0 < t121.length) = True := eq_true (by omega)
                              (try rw [show ((0 : Int)).toNat = 0 from rfl] at hx127_0)
                              (try rw [Addr.add_zero'] at hx127_0)
                              replace p127 := eq_true p127
                              replace q127 := eq_true q127
                              go_wp2
                              go_roundg k2
                              case measure => have := HJ4.out; have := HK2.out; omega
                              case rel => exact ⟨(wrap64 (x6_2 + (rd t121 x24_2))), (wrap64 (x24_2 + 1)), (by first | rfl | (simp; done) | (simp [*]; done)), (by first | rfl | (simp; done) | (simp [*]; done)), H', ⟨by have := HJ4.out; have := HK2.out; omega⟩, ⟨by (with_reducible repeat (first | apply Kd.R_alloc | apply Kd.R_drewN | apply Kd.R_drew)); exact HO_5.out⟩, ⟨by (with_reducible repeat (first | apply Kd.R_alloc | apply Kd.R_drewN | apply Kd.R_drew)); exact HO_22.out⟩, ⟨by repeat (first | (with_reducible first | exact HB.out | apply below_alloc | apply pw_below_drewN | apply below_drew1) | exact HB.out)⟩⟩
                          · rw [if_neg c24] at H
                            exact absurd H (by simp)
                  · rw [if_neg c14] at H
                    exact absurd H (by simp)
                · rw [if_neg c13] at H
                  exact absurd H (by simp)
              · rw [if_neg c12] at H
                have c12b0 : decide (x24_2 < (t121.length : Int)) = false := decide_eq_false c12
                clear c12
                by_cases c26 : x6_2 = (wrap64 (a0))
                · rw [if_pos c26] at H
                  have c26b0 : (x6_2 == (wrap64 (a0))) = true := beq_iff_eq.mpr c26
                  have c26b1 : (x6_2 != (wrap64 (a0))) = false := bne_eq_false_iff_eq.mpr c26
                  clear c26
                  obtain rfl := Option.some.inj H
                  go_wp2
                  go_ret
                  exact ⟨by first | rfl | (simp [errW_none, errW_some] <;> rfl) | (simp [*, errW_none, errW_some] <;> rfl), by repeat (first | (with_reducible first | exact HB.out | apply below_alloc | apply pw_below_drewN | apply below_drew1) | exact HB.out)⟩
                · rw [if_neg c26] at H
                  have c26b0 : (x6_2 == (wrap64 (a0))) = false := beq_eq_false_iff_ne.mpr c26
                  have c26b1 : (x6_2 != (wrap64 (a0))) = true := bne_iff_ne.mpr c26
                  obtain rfl := Option.some.inj H
                  go_wp2
                  go_ret
                  exact ⟨by first | rfl | (simp [errW_none, errW_some] <;> rfl) | (simp [*, errW_none, errW_some] <;> rfl), by repeat (first | (with_reducible first | exact HB.out | apply below_alloc | apply pw_below_drewN | apply below_drew1) | exact HB.out)⟩
  · replace c4 := Bool.eq_false_iff.mpr c4
    subst c4
    have H1 : (some false) = some r := by rw [if_neg (show ¬ (false = true) by decide)] at H; exact H
    clear H
    have H := H1
    clear H1
    obtain rfl := Option.some.inj H
    go_enter Try.func4, Try.ntmps4
    go_wp2_with (first | ((with_reducible refine gate_callee (f := 6) rfl ?_); refine goesL_ (some 9) rfl rfl Try.func6 (by kernel_rfl) rfl #[] rfl (by (try simp only [List.map_toArray, List.map_cons, List.map_nil]); first | done | rfl | (simp only [List.length_drop, List.length_take]; rfl)) ?_; (with_reducible refine (boscagelaw20_Awake.calls k  false _ A3.out).mono ?_); rintro e w27 ⟨rfl, hb⟩; refine ⟨_, rfl, ?_⟩; have n0_ := Aside0.mk (below_step (by repeat (first | (with_reducible first | exact HB.out | apply below_alloc | apply pw_below_drewN | apply below_drew1) | exact HB.out)) hb); clear HB; have HB := n0_; clear n0_; (try clear hb); (try clear hb2); (try clear hk); (try clear hi)))
    go_ret
    exact ⟨by first | rfl | (simp [errW_none, errW_some] <;> rfl) | (simp [*, errW_none, errW_some] <;> rfl), by repeat (first | (with_reducible first | exact HB.out | apply below_alloc | apply pw_below_drewN | apply below_drew1) | exact HB.out)⟩

/-- THE ONE PURE STATEMENT of boscagelaw20_LoadEven: yours. -/
def boscagelaw20_LoadEven.Pure : Prop := ∀ (a0 : Int) (a1 : Int), (Lit.int .u16 a0).wf = true → (Lit.int .u16 a1).wf = true → ∃ k, boscagelaw20_LoadEven.f k a0 a1 = some true
theorem boscagelaw20_LoadEven.walk (P : boscagelaw20_LoadEven.Pure) (a0 : Int) (a1 : Int) (w : World) (w0 : (Lit.int .u16 a0).wf = true) (w1 : (Lit.int .u16 a1).wf = true) :
    Calls Try.prog 4 #[.int .u16 a0, .int .u16 a1] w fun e w' => e = .returned (.bool true) ∧ Below w.heap.size w w' := by
  obtain ⟨k, h⟩ := P a0 a1 w0 w1
  refine (boscagelaw20_LoadEven.calls k a0 a1 true w h).mono ?_
  rintro e w' ⟨rfl, hd⟩
  exact ⟨rfl, hd⟩

end Go.Proofs.Ytfhnlgafdgnbgaa.PLoadEven
