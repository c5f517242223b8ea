/- RecordMakes and RecordNil: the laws' walks. No condition but that the record handed in can be read. -/
import Derived.Test.YtdikkndphimjaaaRecG
import Derived.Test.YtdikkndphimjaaaOpen
namespace Go.Proofs.Ytdikkndphimjaaa
open Go Go.RowKit
set_option linter.unusedVariables false
set_option linter.unusedSimpArgs false
theorem Told.rd {w : World} {B : Nat} {v : Value} {nodes infos : List Int} {keep way old new : Int} (h : Told w B v nodes infos keep way old new) (h1 : nodes.length * 8 ≤ 140737488355328) (h2 : infos.length * 8 ≤ 140737488355328) :
    ∃ vn vi, v = .agg #[vn, vi, .int .i64 keep, .int .i64 way, .int .i64 old, .int .i64 new] ∧ Rd w vn nodes ∧ Rd w vi infos := by
  obtain ⟨a2, c2, a3, c3, rfl, r1, r2⟩ := h
  exact ⟨_, _, rfl, r1.rd h1, r2.rd h2⟩
theorem Fr.step {S : Nat → Prop} {B : Nat} {a b c : World} (h : Fr nob a b) (k : Fr S b c) (hs : ∀ j, S j → B ≤ j) (hB : B = a.heap.size) : Fr nob a c ∧ ∀ j, wide S b c j → B ≤ j := by
  refine ⟨h.trans k (fun j hj hx => by have := hs j hx; omega), fun j hj => ?_⟩
  rcases hj with hj | hj
  · exact hs j hj
  · have := h.size; omega
set_option maxHeartbeats 1600000 in
set_option maxRecDepth 100000 in
theorem RecordNil_walk (vn vi : Value) (nodes infos : List Int) (keep way old new : Int) (w : World) (hrn : Rd w vn nodes) (hri : Rd w vi infos) (n : Int) (_ : -9223372036854775808 ≤ n ∧ n ≤ 9223372036854775807) :
    Calls Try.prog 8 #[.agg #[vn, vi, .int .i64 keep, .int .i64 way, .int .i64 old, .int .i64 new], .int .i64 n] w fun e w' => e = .returned (.bool true) ∧ Below w.heap.size w w' := by
  obtain ⟨an, cn, rfl⟩ := hrn.len
  obtain ⟨ai, ci, rfl⟩ := hri.len
  have K1 := Lib.hid hrn
  have K2 := Lib.hid hri
  clear hrn hri
  go_enter Try.func8, Try.ntmps8
  go_wp2_with fail
  refine (Awake_calls _).mono ?_
  rintro e w1 ⟨rfl, F1⟩
  have B1 := (Blk.new w 31 #[.slice an nodes.length cn, .slice ai infos.length ci, .int .i64 keep, .int .i64 way, .int .i64 old, .int .i64 new]).fr F1 (fun x => x)
  replace F1 : Fr nob w w1 := ((Fr.refl nob w).alloc _).trans F1 (fun _ _ x => x)
  generalize hH : w.heap.size = H at *
  have HH := Lib.hid hH
  clear hH
  obtain ⟨c0, c1, c2, c3, c4, c5⟩ := B1.six
  have R1 := K1.out.fr F1 (fun _ _ _ x => x)
  have R2 := K2.out.fr F1 (fun _ _ _ x => x)
  go_wp2_with fail
  refine (short_calls _ _ nodes infos keep way old new w1 R1 R2).mono ?_
  rintro e w2 ⟨rfl, F2⟩
  by_cases hs : nodes.length ≤ 20 ∧ infos.length ≤ 20
  · rw [decide_eq_true hs]
    replace R1 := R1.fr F2 (fun _ _ _ x => x)
    replace R2 := R2.fr F2 (fun _ _ _ x => x)
    replace B1 := B1.fr F2 (fun x => x)
    replace F2 := F1.trans F2 (fun _ _ x => x)
    clear c0 c1 c2 c3 c4 c5 F1 hs
    obtain ⟨c0, c1, c2, c3, c4, c5⟩ := B1.six
    go_wp2_with fail
    refine (Make_nil _ _ nodes infos keep way old new w2 R1 R2).mono ?_
    rintro e w3 ⟨rfl, F3⟩
    replace F3 := F2.trans F3 (fun _ _ x => x)
    clear F2 R1 R2 c0 c1 c2 c3 c4 c5
    go_wp2_with fail
    refine (Set_nil n 2 w3).mono ?_
    rintro e w4 ⟨rfl, rfl⟩
    go_wp2_with fail
    refine (SetAll_nil n w4).mono ?_
    rintro e w5 ⟨rfl, rfl⟩
    go_wp2_with fail
    refine (State_nil n w5).mono ?_
    rintro e w6 ⟨rfl, rfl⟩
    go_wp2_with fail
    refine (All_nil n w6).mono ?_
    rintro e w7 ⟨rfl, rfl⟩
    go_wp2_with fail
    refine (Look_nil n w7).mono ?_
    rintro e w8 ⟨v, rfl, hT, F8⟩
    obtain ⟨vn', vi', rfl, R1, R2⟩ := hT.rd (by simp) (by simp)
    replace F8 := F3.trans F8 (fun _ _ x => x)
    go_wp2_with fail
    refine (Same_true _ _ _ _ [] [] 0 0 0 0 w8 R1 R2 Rd.nil Rd.nil).mono ?_
    rintro e w9 ⟨rfl, F9⟩
    replace F9 := F8.trans F9 (fun _ _ x => x)
    go_wp2_with fail
    refine (Len_nil w9).mono ?_
    rintro e w10 ⟨rfl, rfl⟩
    go_wp2_with fail
    go_ret
    exact ⟨rfl, F9.below (by have := HH.out; omega) (fun _ x => x.elim)⟩
  · rw [decide_eq_false hs]
    go_wp2_with fail
    go_ret
    exact ⟨rfl, (F1.trans F2 (fun _ _ x => x)).below (by have := HH.out; omega) (fun _ x => x.elim)⟩
set_option maxHeartbeats 1600000 in
set_option maxRecDepth 100000 in
theorem RecordMakes_walk (vn vi : Value) (nodes infos : List Int) (keep way old new : Int) (w : World) (hrn : Rd w vn nodes) (hri : Rd w vi infos) :
    Calls Try.prog 5 #[.agg #[vn, vi, .int .i64 keep, .int .i64 way, .int .i64 old, .int .i64 new]] w fun e w' => e = .returned (.bool true) ∧ Below w.heap.size w w' := by
  obtain ⟨an, cn, rfl⟩ := hrn.len
  obtain ⟨ai, ci, rfl⟩ := hri.len
  have K1 := Lib.hid hrn
  have K2 := Lib.hid hri
  clear hrn hri
  go_enter Try.func5, Try.ntmps5
  go_wp2_with fail
  refine (Awake_calls _).mono ?_
  rintro e w1 ⟨rfl, F1⟩
  have B1 := (Blk.new w 31 #[.slice an nodes.length cn, .slice ai infos.length ci, .int .i64 keep, .int .i64 way, .int .i64 old, .int .i64 new]).fr F1 (fun x => x)
  replace F1 : Fr nob w w1 := ((Fr.refl nob w).alloc _).trans F1 (fun _ _ x => x)
  generalize hH : w.heap.size = H at *
  have HH := Lib.hid hH
  clear hH
  obtain ⟨c0, c1, c2, c3, c4, c5⟩ := B1.six
  have R1 := K1.out.fr F1 (fun _ _ _ x => x)
  have R2 := K2.out.fr F1 (fun _ _ _ x => x)
  go_wp2_with fail
  refine (short_calls _ _ nodes infos keep way old new w1 R1 R2).mono ?_
  rintro e w2 ⟨rfl, F2⟩
  by_cases hs : nodes.length ≤ 20 ∧ infos.length ≤ 20
  · rw [decide_eq_true hs]
    replace R1 := R1.fr F2 (fun _ _ _ x => x)
    replace R2 := R2.fr F2 (fun _ _ _ x => x)
    replace B1 := B1.fr F2 (fun x => x)
    have B0 := B1
    replace F2 := F1.trans F2 (fun _ _ x => x)
    clear c0 c1 c2 c3 c4 c5 F1 hs
    obtain ⟨c0, c1, c2, c3, c4, c5⟩ := B1.six
    go_wp2_with fail
    refine (New_tab 3 w2).mono ?_
    rintro e w3 ⟨rfl, F3, T3⟩
    replace R1 := R1.fr F3 (fun _ _ _ x => x)
    replace R2 := R2.fr F3 (fun _ _ _ x => x)
    replace B1 := B1.fr F3 (fun x => x)
    have S3 : ∀ j, wide nob w2 w3 j → H + 1 ≤ j := fun j hj => by
      rcases hj with hj | hj
      · exact hj.elim
      · have := B0.lt; omega
    replace F3 := F2.trans F3 (fun _ _ x => x)
    clear c0 c1 c2 c3 c4 c5 F2
    generalize w2.heap.size = t at *
    obtain ⟨c0, c1, c2, c3, c4, c5⟩ := B1.six
    go_wp2_with fail
    by_cases hm : nodes.length = infos.length ∧ 0 ≤ keep
    · refine (Make_yes t _ [] (lim 3) _ _ nodes infos keep way old new w3 T3 R1 R2 hm.1 hm.2 (by unfold lim; decide)).mono ?_
      rintro e w4 ⟨rfl, F4, T4⟩
      have HM := Lib.hid hm
      clear hm
      have S4 : ∀ j, wide nob w2 w3 j → w.heap.size ≤ j := fun j hj => by have := S3 j hj; have := HH.out; omega
      replace R1 := K1.out.fr2 R1 F4 S4
      replace R2 := K2.out.fr2 R2 F4 S4
      replace B1 := B1.fr F4 (fun hx => by have := S3 _ hx; omega)
      obtain ⟨F4, S4⟩ := F3.step F4 S4 rfl
      clear c0 c1 c2 c3 c4 c5 F3 B0 S3
      obtain ⟨c0, c1, c2, c3, c4, c5⟩ := B1.six
      go_wp2_with fail
      refine (May_calls _ _ nodes infos keep way old new w4 R1 R2).mono ?_
      rintro e w5 ⟨rfl, F5⟩
      rw [decide_eq_true HM.out]
      have T5 := T4.fr F5 (fun _ _ x => x)
      replace R1 := R1.fr F5 (fun _ _ _ x => x)
      replace R2 := R2.fr F5 (fun _ _ _ x => x)
      replace B1 := B1.fr F5 (fun x => x)
      replace F5 := F4.trans F5 (fun _ _ x => x)
      clear c0 c1 c2 c3 c4 c5 F4 T4 HM T3
      obtain ⟨c0, c1, c2, c3, c4, c5⟩ := B1.six
      have HT := Lib.hid (T5.fr (Fr.refl nob w5).drew (fun _ _ x => x))
      have HR1 := Lib.hid (R1.fr (Fr.refl nob w5).drew (fun _ _ _ x => x))
      have HR2 := Lib.hid (R2.fr (Fr.refl nob w5).drew (fun _ _ _ x => x))
      go_wp2_with fail
      go_region_held3 (fun w' => w'.cell? ⟨H, 0, none⟩ = some (.slice an nodes.length cn) ∧ w'.cell? ⟨H, 1, none⟩ = some (.slice ai infos.length ci) ∧ w'.cell? ⟨H, 2, none⟩ = some (.int .i64 keep) ∧ w'.cell? ⟨H, 3, none⟩ = some (.int .i64 way) ∧ w'.cell? ⟨H, 4, none⟩ = some (.int .i64 old) ∧ w'.cell? ⟨H, 5, none⟩ = some (.int .i64 new)) (first | exact ⟨c0, c1, c2, c3, c4, c5⟩ | exact ⟨d0, d1, d2, d3, d4, d5⟩ | exact ((B1.fr F9.undrew (fun x => x)).fr F10 (fun x => x)).six) (first
        | (go_at_call 12; refine (Len_calls t _ _ _ _ HT.out).mono ?_; rintro e w6 ⟨rfl, rfl⟩)
        | (go_at_call 18; refine (State_calls HT.out 1).mono ?_; rintro e w7 ⟨rfl, rfl⟩)
        | (go_at_call 19; refine (All_calls HT.out 1).mono ?_; rintro e w8 ⟨rfl, rfl⟩)
        | (go_at_call 14; refine (Look_some HT.out 1 _ rfl).mono ?_; rintro e w9 ⟨v, rfl, hT, F9⟩; obtain ⟨vn', vi', rfl, Q1, Q2⟩ := hT.rd HR1.out.short HR2.out.short; obtain ⟨d0, d1, d2, d3, d4, d5⟩ := (B1.fr F9.undrew (fun x => x)).six)
        | (go_at_call 15; refine (Same_true _ _ _ _ nodes infos keep way old new _ Q1 Q2 (HR1.out.fr F9 (fun _ _ _ x => x)) (HR2.out.fr F9 (fun _ _ _ x => x))).mono ?_; rintro e w10 ⟨rfl, F10⟩))
      all_goals
        have FF := ((F5.trans F9.undrew (fun _ _ x => x)).trans F10 (fun _ _ x => x)).below (Nat.le_refl _) (fun _ x => x.elim)
        clear T5 R1 R2 HT HR1 HR2 Q1 Q2 hT
        go_wp2
        go_ret
        exact ⟨rfl, FF⟩
    · refine (Make_no t _ [] (lim 3) _ _ nodes infos keep way old new w3 T3 R1 R2 (by omega)).mono ?_
      rintro e w4 ⟨rfl, F4⟩
      have HM := Lib.hid hm
      clear hm
      have T4 := T3.fr F4 (fun _ _ x => x)
      replace R1 := R1.fr F4 (fun _ _ _ x => x)
      replace R2 := R2.fr F4 (fun _ _ _ x => x)
      replace B1 := B1.fr F4 (fun x => x)
      replace F4 := F3.trans F4 (fun _ _ x => x)
      clear c0 c1 c2 c3 c4 c5 F3 T3 B0
      obtain ⟨c0, c1, c2, c3, c4, c5⟩ := B1.six
      go_wp2_with fail
      refine (May_calls _ _ nodes infos keep way old new w4 R1 R2).mono ?_
      rintro e w5 ⟨rfl, F5⟩
      rw [decide_eq_false HM.out]
      have T5 := T4.fr F5 (fun _ _ x => x)
      replace F5 := F4.trans F5 (fun _ _ x => x)
      clear c0 c1 c2 c3 c4 c5 F4 T4 R1 R2 B1
      go_wp2_with fail
      refine (Len_calls t _ _ _ _ T5).mono ?_
      rintro e w6 ⟨rfl, rfl⟩
      go_wp2_with fail
      refine (Look_none T5 1 rfl).mono ?_
      rintro e w8 ⟨v, rfl, hT, F8⟩
      obtain ⟨vn', vi', rfl, R1, R2⟩ := hT.rd (by simp) (by simp)
      replace F8 := F5.trans F8 (fun _ _ x => x)
      go_wp2_with fail
      refine (Same_true _ _ _ _ [] [] 0 0 0 0 w8 R1 R2 Rd.nil Rd.nil).mono ?_
      rintro e w9 ⟨rfl, F9⟩
      replace F9 := F8.trans F9 (fun _ _ x => x)
      go_wp2_with fail
      go_ret
      exact ⟨rfl, F9.below (Nat.le_refl _) (fun _ x => x.elim)⟩
  · rw [decide_eq_false hs]
    go_wp2_with fail
    go_ret
    exact ⟨rfl, (F1.trans F2 (fun _ _ x => x)).below (by have := HH.out; omega) (fun _ x => x.elim)⟩
end Go.Proofs.Ytdikkndphimjaaa
