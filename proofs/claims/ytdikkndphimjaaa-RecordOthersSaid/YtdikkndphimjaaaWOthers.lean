/- RecordOthers: the law's walk: what is no record's number has no state, is not all, is told as the zero record; what is set of it changes nothing. -/
import Derived.Test.YtdikkndphimjaaaRecG
namespace Go.Proofs.Ytdikkndphimjaaa
open Go Go.RowKit
set_option linter.unusedVariables false
set_option linter.unusedSimpArgs false
theorem entOf_out {es : List Ent} {n : Int} (h : n < 1 ∨ (es.length : Int) < n) : entOf es n = none := by
  unfold entOf
  split
  · rw [List.getElem?_eq_none_iff]; omega
  · rfl
theorem Told.rd {w : World} {B : Nat} {v : Value} {nodes infos : List Int} {keep way old new : Int} (h : Told w B v nodes infos keep way old new) (h1 : nodes.length * 8 ≤ 140737488355328) (h2 : infos.length * 8 ≤ 140737488355328) :
    ∃ vn vi, v = .agg #[vn, vi, .int .i64 keep, .int .i64 way, .int .i64 old, .int .i64 new] ∧ Rd w vn nodes ∧ Rd w vi infos := by
  obtain ⟨a2, c2, a3, c3, rfl, r1, r2⟩ := h
  exact ⟨_, _, rfl, r1.rd h1, r2.rd h2⟩
theorem Fr.step {S : Nat → Prop} {B : Nat} {a b c : World} (h : Fr nob a b) (k : Fr S b c) (hs : ∀ j, S j → B ≤ j) (hB : B = a.heap.size) : Fr nob a c ∧ ∀ j, wide S b c j → B ≤ j := by
  refine ⟨h.trans k (fun j hj hx => by have := hs j hx; omega), fun j hj => ?_⟩
  rcases hj with hj | hj
  · exact hs j hj
  · have := h.size; omega
set_option maxHeartbeats 1600000 in
set_option maxRecDepth 100000 in
theorem RecordOthers_walk (n : Int) (_ : -9223372036854775808 ≤ n ∧ n ≤ 9223372036854775807) (s : Int) (_ : 0 ≤ s ∧ s ≤ 255) (w : World) : Calls Try.prog 7 #[.int .i64 n, .int .u8 s] w fun e w' => e = .returned (.bool true) ∧ Below w.heap.size w w' := by
  by_cases h12 : n = 1 ∨ n = 2
  · rcases h12 with rfl | rfl
    all_goals
      go_enter Try.func7, Try.ntmps7
      go_wp2_with fail
      refine (Awake_calls _).mono ?_
      rintro e w1 ⟨rfl, F1⟩
      go_wp2_with fail
      go_ret
      exact ⟨rfl, F1.below (Nat.le_refl _) (fun _ x => x.elim)⟩
  have b1 : (n == 1) = false := by simp; omega
  have b2 : (n == 2) = false := by simp; omega
  have H12 := Lib.hid h12
  clear h12
  have hfld : ∀ (x0 x1 x2 x3 x4 x5 : Value) (w : World), (Instr.field 31 (.agg #[x0, x1, x2, x3, x4, x5]) 2).run Try.prog w = .ok x2 w := fun _ _ _ _ _ _ _ => by kernel_rfl
  go_enter Try.func7, Try.ntmps7
  go_wp2_with fail
  refine (Awake_calls _).mono ?_
  rintro e w1 ⟨rfl, F1⟩
  go_wp2_with fail
  refine (New_tab 9 _).mono ?_
  rintro e w2 ⟨rfl, F2, T2⟩
  have S2 : ∀ j, wide nob w1 w2 j → w.heap.size ≤ j := fun j hj => by
    rcases hj with hj | hj
    · exact hj.elim
    · have := F1.size; omega
  replace F2 := F1.trans F2 (fun _ _ x => x)
  generalize w1.heap.size = t at *
  go_wp2_with fail
  refine (Make_yes t _ [] (lim 9) _ _ [] [] 3 0 0 0 w2 T2 Rd.nil Rd.nil rfl (by omega) (by unfold lim; decide)).mono ?_
  rintro e w3 ⟨rfl, F3, T3⟩
  obtain ⟨F3, S3⟩ := F2.step F3 S2 rfl
  clear T2 F2 S2
  go_wp2_with fail
  refine (Make_yes t _ _ (lim 9) _ _ [] [] 4 0 0 0 w3 T3 Rd.nil Rd.nil rfl (by omega) (by unfold lim; decide)).mono ?_
  rintro e w4 ⟨rfl, F4, T4⟩
  obtain ⟨F4, S4⟩ := F3.step F4 S3 rfl
  clear T3 F3 S3
  have he : entOf ([] ++ [(⟨[], [], 3, 0, 0, 0, 1, false⟩ : Ent)] ++ [⟨[], [], 4, 0, 0, 0, 1, false⟩]) n = none := entOf_out (by have := H12.out; simp; omega)
  have HE := Lib.hid he
  clear he
  go_wp2_with fail
  refine (Set_calls T4 n s).mono ?_
  rintro e w5 ⟨rfl, F5, T5⟩
  obtain ⟨F5, _⟩ := F4.step F5 S4 rfl
  rw [putOf, HE.out] at T5
  dsimp only at T5
  clear T4 F4
  go_wp2_with fail
  refine (SetAll_calls T5 n).mono ?_
  rintro e w6 ⟨rfl, F6, T6⟩
  obtain ⟨F6, _⟩ := F5.step F6 S4 rfl
  rw [putOf, HE.out] at T6
  dsimp only at T6
  clear T5 F5
  go_wp2_with fail
  refine (State_calls T6 n).mono ?_
  rw [HE.out]
  rintro e w7 ⟨rfl, rfl⟩
  go_wp2_with fail
  refine (All_calls T6 n).mono ?_
  rw [HE.out]
  rintro e w8 ⟨rfl, rfl⟩
  go_wp2_with fail
  refine (Look_none T6 n HE.out).mono ?_
  rintro e w9 ⟨v, rfl, hT, F9⟩
  obtain ⟨vn, vi, rfl, R1, R2⟩ := hT.rd (by simp) (by simp)
  have T9 := T6.fr F9 (fun _ _ x => x)
  replace F9 := F6.trans F9 (fun _ _ x => x)
  clear T6 F6 hT
  go_wp2_with fail
  refine (Same_true _ _ _ _ [] [] 0 0 0 0 w9 R1 R2 Rd.nil Rd.nil).mono ?_
  rintro e w10 ⟨rfl, F10⟩
  have T10 := T9.fr F10 (fun _ _ x => x)
  replace F10 := F9.trans F10 (fun _ _ x => x)
  clear T9 F9 R1 R2
  go_wp2_with fail
  refine (State_calls T10 1).mono ?_
  rintro e w7 ⟨rfl, rfl⟩
  go_wp2_with fail
  refine (State_calls T10 2).mono ?_
  rintro e w7 ⟨rfl, rfl⟩
  go_wp2_with fail
  refine (All_calls T10 1).mono ?_
  rintro e w7 ⟨rfl, rfl⟩
  go_wp2_with fail
  refine (All_calls T10 2).mono ?_
  rintro e w7 ⟨rfl, rfl⟩
  go_wp2_with fail
  refine (Look_some T10 2 _ rfl).mono ?_
  rintro e w11 ⟨v, rfl, hT, F11⟩
  obtain ⟨vn, vi, rfl, R1, R2⟩ := hT.rd (by simp) (by simp)
  have T11 := T10.fr F11 (fun _ _ x => x)
  replace F11 := F10.trans F11 (fun _ _ x => x)
  go_wp2_with fail
  refine (Len_calls t _ _ _ w11 T11).mono ?_
  rintro e w7 ⟨rfl, rfl⟩
  go_wp2_with fail
  go_ret
  exact ⟨rfl, F11.below (Nat.le_refl _) (fun _ x => x.elim)⟩
end Go.Proofs.Ytdikkndphimjaaa
