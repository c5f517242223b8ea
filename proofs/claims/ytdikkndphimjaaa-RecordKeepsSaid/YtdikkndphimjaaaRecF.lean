/- The record laws' helpers: Awake, short, May, Copy, Same. No condition but that what is read can be read. -/
import Derived.Test.YtdikkndphimjaaaRecE
namespace Go.Proofs.Ytdikkndphimjaaa
open Go Go.RowKit
set_option linter.unusedVariables false
set_option linter.unusedSimpArgs false
theorem Tab_new (n : Int) (w : World) : Tab (w.alloc (.cells #[.slice none 0 0, .int .i64 (lim n)] 56)) w.heap.size (wide nob w (w.alloc (.cells #[.slice none 0 0, .int .i64 (lim n)] 56))) [] (lim n) := by
  refine ⟨⟨.slice none 0 0, [], Blk.new _ _ _, ⟨rfl, .inl ⟨rfl, rfl⟩⟩, fun g hg => by simp [Value.ownBlock] at hg, List.nodup_nil, fun b hb => by simp at hb, fun i e h => by simp at h⟩, .inr ⟨Nat.le_refl _, by simp⟩, ?_, ?_, ?_⟩
  · rintro k (hk | hk)
    · exact hk.elim
    · exact hk.2
  · unfold lim; simp; omega
  · unfold lim; omega
theorem New_tab (n : Int) (w : World) : Calls Try.prog 10 #[.int .i64 n] w fun e w' => e = .returned (.pointer (some ⟨w.heap.size, 0, none⟩)) ∧ Fr nob w w' ∧ Tab w' w.heap.size (wide nob w w') [] (lim n) := by
  refine (New_calls n w).mono ?_
  rintro e w' ⟨rfl, rfl⟩
  exact ⟨rfl, (Fr.refl _ _).alloc _, Tab_new n w⟩
theorem wide_wide {S : Nat → Prop} {a b c : World} (h1 : a.heap.size ≤ b.heap.size) (h2 : b.heap.size ≤ c.heap.size) (k : Nat) : wide (wide S a b) b c k ↔ wide S a c k := by
  unfold wide
  constructor
  · rintro ((h | h) | h)
    · exact .inl h
    · exact .inr ⟨h.1, by omega⟩
    · exact .inr ⟨by omega, h.2⟩
  · rintro (h | h)
    · exact .inl (.inl h)
    · by_cases hb : k < b.heap.size
      · exact .inl (.inr ⟨h.1, hb⟩)
      · exact .inr ⟨by omega, h.2⟩
theorem Awake_calls (w : World) : Calls Try.prog 9 #[] w fun e w' => e = .returned (.bool true) ∧ Fr nob w w' := by
  go_enter Try.func9, Try.ntmps9
  go_wp2_with fail
  refine (New_tab 1 _).mono ?_
  rintro e w1 ⟨rfl, F1, T1⟩
  go_wp2_with fail
  refine (Make_yes w.heap.size _ [] 1 _ _ [] [] 0 0 0 0 w1 T1 Rd.nil Rd.nil rfl (by omega) (by simp)).mono ?_
  rintro e w2 ⟨rfl, F2, T2⟩
  go_wp2_with fail
  refine (Make_no w.heap.size _ _ 1 _ _ [] [] 0 0 0 0 w2 T2 Rd.nil Rd.nil (by simp)).mono ?_
  rintro e w3 ⟨rfl, F3⟩
  have T3 := T2.fr F3 (fun _ _ x => x)
  go_wp2_with fail
  refine (State_calls T3 1).mono ?_
  rintro e w4 ⟨rfl, rfl⟩
  go_wp2_with fail
  refine (State_calls T3 0).mono ?_
  rintro e w4 ⟨rfl, rfl⟩
  go_wp2_with fail
  go_ret
  refine ⟨rfl, ?_⟩
  refine (F1.trans F2 ?_).trans F3 (fun _ _ x => x)
  rintro i hi (x | x)
  · exact x
  · omega
theorem short_calls (vn vi : Value) (nodes infos : List Int) (keep way old new : Int) (w : World) (hrn : Rd w vn nodes) (hri : Rd w vi infos) :
    Calls Try.prog 16 #[.agg #[vn, vi, .int .i64 keep, .int .i64 way, .int .i64 old, .int .i64 new]] w fun e w' =>
      e = .returned (.bool (decide (nodes.length ≤ 20 ∧ infos.length ≤ 20))) ∧ Fr nob w w' := by
  obtain ⟨an, cn, rfl⟩ := hrn.len
  obtain ⟨ai, ci, rfl⟩ := hri.len
  clear hrn hri
  go_enter Try.func16, Try.ntmps16
  go_wp2
  all_goals
    go_ret
    refine ⟨ret_bool ?_, (Fr.refl _ _).alloc _⟩
    rw [Bool.eq_iff_iff]
    simp
    try omega
theorem May_calls (vn vi : Value) (nodes infos : List Int) (keep way old new : Int) (w : World) (hrn : Rd w vn nodes) (hri : Rd w vi infos) :
    Calls Try.prog 17 #[.agg #[vn, vi, .int .i64 keep, .int .i64 way, .int .i64 old, .int .i64 new]] w fun e w' =>
      e = .returned (.bool (decide (nodes.length = infos.length ∧ 0 ≤ keep))) ∧ Fr nob w w' := by
  obtain ⟨an, cn, rfl⟩ := hrn.len
  obtain ⟨ai, ci, rfl⟩ := hri.len
  clear hrn hri
  go_enter Try.func17, Try.ntmps17
  go_wp2
  all_goals
    go_ret
    refine ⟨ret_bool ?_, (Fr.refl _ _).alloc _⟩
    rw [Bool.eq_iff_iff]
    simp
    try omega
end Go.Proofs.Ytdikkndphimjaaa
