/- The record laws' helpers: Awake, short, May, Copy, Same. No condition but that what is read can be read. -/
import Derived.Test.YtdikkndphimjaaaK3
namespace Go.Proofs.Ytdikkndphimjaaa
open Go Go.RowKit
set_option maxRecDepth 100000
set_option linter.unusedVariables false
set_option linter.unusedSimpArgs false
theorem RcAwake_calls (w : World) : Calls Try.prog 9 #[] w fun e w' => e = .returned (.bool true) ∧ Fr nob w w' := by
  go_enter Try.func9, Try.ntmps9
  go_wp2_with fail
  refine (New_tab 1 _).mono ?_
  rintro e w1 ⟨rfl, F1, T1⟩
  go_wp2_with fail
  refine (Make_yes w.heap.size _ [] 1 _ _ [] [] 0 0 0 0 w1 T1 Rd.nil Rd.nil rfl (by omega) (by simp)).mono ?_
  rintro e w2 ⟨rfl, F2, T2⟩
  go_wp2_with fail
  refine (Make_no w.heap.size _ _ 1 _ _ [] [] 0 0 0 0 w2 T2 Rd.nil Rd.nil (by simp)).mono ?_
  rintro e w3 ⟨rfl, F3⟩
  have T3 := T2.fr F3 (fun _ _ x => x)
  go_wp2_with fail
  refine (State_calls T3 1).mono ?_
  rintro e w4 ⟨rfl, rfl⟩
  go_wp2_with fail
  refine (State_calls T3 0).mono ?_
  rintro e w4 ⟨rfl, rfl⟩
  go_wp2_with fail
  go_ret
  refine ⟨rfl, ?_⟩
  refine (F1.trans F2 ?_).trans F3 (fun _ _ x => x)
  rintro i hi (x | x)
  · exact x
  · omega
theorem short_calls (vn vi : Value) (nodes infos : List Int) (keep way old new : Int) (w : World) (hrn : Rd w vn nodes) (hri : Rd w vi infos) :
    Calls Try.prog 16 #[.agg #[vn, vi, .int .i64 keep, .int .i64 way, .int .i64 old, .int .i64 new]] w fun e w' =>
      e = .returned (.bool (decide (nodes.length ≤ 20 ∧ infos.length ≤ 20))) ∧ Fr nob w w' := by
  obtain ⟨an, cn, rfl⟩ := hrn.len
  obtain ⟨ai, ci, rfl⟩ := hri.len
  clear hrn hri
  go_enter Try.func16, Try.ntmps16
  go_wp2
  all_goals
    go_ret
    refine ⟨ret_bool ?_, (Fr.refl _ _).alloc _⟩
    rw [Bool.eq_iff_iff]
    simp
    try omega
theorem May_calls (vn vi : Value) (nodes infos : List Int) (keep way old new : Int) (w : World) (hrn : Rd w vn nodes) (hri : Rd w vi infos) :
    Calls Try.prog 17 #[.agg #[vn, vi, .int .i64 keep, .int .i64 way, .int .i64 old, .int .i64 new]] w fun e w' =>
      e = .returned (.bool (decide (nodes.length = infos.length ∧ 0 ≤ keep))) ∧ Fr nob w w' := by
  obtain ⟨an, cn, rfl⟩ := hrn.len
  obtain ⟨ai, ci, rfl⟩ := hri.len
  clear hrn hri
  go_enter Try.func17, Try.ntmps17
  go_wp2
  all_goals
    go_ret
    refine ⟨ret_bool ?_, (Fr.refl _ _).alloc _⟩
    rw [Bool.eq_iff_iff]
    simp
    try omega
end Go.Proofs.Ytdikkndphimjaaa
