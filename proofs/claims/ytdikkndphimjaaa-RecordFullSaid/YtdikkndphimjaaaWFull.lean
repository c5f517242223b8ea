/- RecordFull: the law's walk: for every number of records, true. -/
import Derived.Test.YtdikkndphimjaaaRecF
namespace Go.Proofs.Ytdikkndphimjaaa
open Go Go.RowKit
set_option linter.unusedVariables false
set_option linter.unusedSimpArgs false
theorem Make_zero {t : Nat} {S : Nat → Prop} {es : List Ent} {most : Int} {w : World} (h : Tab w t S es most) (i : Int) :
    Calls Try.prog 11 #[.pointer (some ⟨t, 0, none⟩), .agg #[.slice none 0 0, .slice none 0 0, .int .i64 0, .int .i64 i, .int .i64 0, .int .i64 0]] w fun e w' =>
      Fr S w w' ∧ (((es.length : Int) < most ∧ e = .returned (.tuple #[.int .i64 ((es.length : Int) + 1), .bool true]) ∧ Tab w' t (wide S w w') (es ++ [⟨[], [], 0, i, 0, 0, 1, false⟩]) most) ∨
        (most ≤ (es.length : Int) ∧ e = .returned (.tuple #[.int .i64 0, .bool false]) ∧ Tab w' t (wide S w w') es most)) := by
  by_cases hl : (es.length : Int) < most
  · refine (Make_yes t S es most _ _ [] [] 0 i 0 0 w h Rd.nil Rd.nil rfl (by omega) hl).mono ?_
    rintro e w' ⟨rfl, hf, ht⟩
    exact ⟨hf, .inl ⟨hl, rfl, ht⟩⟩
  · refine (Make_no t S es most _ _ [] [] 0 i 0 0 w h Rd.nil Rd.nil (by omega)).mono ?_
    rintro e w' ⟨rfl, hf⟩
    refine ⟨hf.mono (fun _ _ x => x.elim), .inr ⟨by omega, rfl, ?_⟩⟩
    have h' := h.fr hf (fun _ _ x => x)
    exact h'.more (fun k hk => .inl hk) (fun k hk => by rcases hk with hk | hk; exact h'.lt k hk; exact hk.2)
set_option maxHeartbeats 1600000 in
set_option maxRecDepth 100000 in
theorem RecordFull_walk (most : Int) (_ : -9223372036854775808 ≤ most ∧ most ≤ 9223372036854775807) (take : Int) (h01 : 0 ≤ take ∧ take ≤ 255) (w : World) : Calls Try.prog 3 #[.int .i64 most, .int .u8 take] w fun e w' => e = .returned (.bool true) ∧ Below w.heap.size w w' := by
  obtain ⟨h0, h1⟩ := h01
  go_enter Try.func3, Try.ntmps3
  go_wp2_with fail
  refine (Awake_calls _).mono ?_
  rintro e w1 ⟨rfl, F1⟩
  go_wp2_with fail
  refine (New_tab most _).mono ?_
  rintro e w2 ⟨rfl, F2, T2⟩
  go_upto_region 4 with fail
  go_cut [6] (fun s6 wx => s6 = .int .i64 (lim most) ∧ wx = w2)
  case first =>
    go_wp2_with fail
    all_goals
      go_meet
      refine ⟨?_, rfl⟩
      first | rw [show lim most = 0 from by unfold lim; omega] | rw [show lim most = 65536 from by unfold lim; omega] | rw [show lim most = most from by unfold lim; omega]
  case rest =>
    obtain ⟨rfl, rfl⟩ := hcut
    go_wp2_with fail
    have hlim : 0 ≤ lim most ∧ lim most ≤ 65536 := by unfold lim; omega
    generalize lim most = L at *
    generalize w1.heap.size = t at *
    obtain ⟨hL0, hL1⟩ := hlim
    go_loopw [19] (fun i wr => ∃ (k : Nat) (S : Nat → Prop) (es : List Ent), (k : Int) ≤ take ∧ i = .int .i64 k ∧ Tab wr t S es L ∧ (es.length : Int) = min (k : Int) L ∧ Fr nob w wr ∧ (∀ j, S j → w.heap.size ≤ j)) (fun i _ => take.toNat - (intOf i).toNat)
    case atStart => exact ⟨0, _, [], by omega, rfl, T2, by simp; omega, F1.trans F2 (fun _ _ x => x), fun j hj => by rcases hj with hj | hj; exact hj.elim; have := F1.size; omega⟩
    case round =>
      obtain ⟨k, S, es, hk, rfl, T3, hlen, F3, hS⟩ := hrel
      have HL := Lib.hid hlen
      clear hlen
      by_cases hlt : (k : Int) < take
      · go_wp2_with fail
        refine (Make_zero T3 (k : Int)).mono ?_
        rintro e w4 ⟨F4, h4⟩
        have F5 : Fr nob w w4 := F3.trans F4 (fun j hj hx => by have := hS j hx; omega)
        have hS' : ∀ j, wide S wr w4 j → w.heap.size ≤ j := fun j hj => by
          rcases hj with hj | hj
          · exact hS j hj
          · have := F3.size; omega
        rcases h4 with ⟨hl, rfl, T4⟩ | ⟨hl, rfl, T4⟩
        · have hlen := HL.out
          have e1 : (es.length : Int) = (k : Int) := by omega
          have hd : decide ((k : Int) < L) = true := by simp; omega
          rw [e1]
          have E1 := Lib.hid e1
          clear e1 hlen hl
          go_wp2
          exact ⟨⟨k + 1, _, _, by omega, by go_num, T4, by have := E1.out; simp at hd; simp; omega, F5, hS'⟩, by simp [intOf]; omega⟩
        · have hlen := HL.out
          have hd : decide ((k : Int) < L) = false := by simp; omega
          have HH := Lib.hid hlen
          clear hlen hl
          go_wp2
          exact ⟨⟨k + 1, _, _, by omega, by go_num, T4, by have := HH.out; simp at hd; omega, F5, hS'⟩, by simp [intOf]; omega⟩
      · go_wp2_with fail
        refine (Len_calls t S es L wr T3).mono ?_
        rintro e w4 ⟨rfl, rfl⟩
        have hlen := HL.out
        have hkt : (k : Int) = take := by omega
        rw [show (es.length : Int) = min L take from by omega]
        have B : Below w.heap.size w w4 := F3.below (Nat.le_refl _) (fun _ x => x.elim)
        clear hlen hkt T3 F3
        go_wp2
        all_goals
          go_ret
          refine ⟨ret_bool ?_, B⟩
          simp
          try omega
end Go.Proofs.Ytdikkndphimjaaa
