/- The epochs' Limbo and New. No condition but that there are such epochs, and that what waits is not too much. -/
import Derived.Test.YtnoioldbddjkiaaEpoD
import Derived.Deep.DeepCutAuto
namespace Go.Proofs.Ytnoioldbddjkiaa
open Go Go.RowKit
set_option linter.unusedVariables false
set_option linter.unusedSimpArgs false
/-- How many wait. -/
def waits (limbo : List (List (Int × Int))) : Nat := (limbo.map List.length).sum
theorem waits_take (limbo : List (List (Int × Int))) (k : Nat) (l : List (Int × Int)) (h : limbo[k]? = some l) : waits (limbo.take (k + 1)) = waits (limbo.take k) + l.length := by
  obtain ⟨hk, rfl⟩ := List.getElem?_eq_some_iff.1 h
  unfold waits
  rw [List.take_succ_eq_append_getElem hk, List.map_append, List.sum_append]
  simp only [List.map_cons, List.map_nil, List.sum_cons, List.sum_nil]
  omega
theorem waits_le (limbo : List (List (Int × Int))) (k : Nat) : waits (limbo.take k) ≤ waits limbo := by
  unfold waits
  have : (limbo.map List.length).sum = ((limbo.take k).map List.length).sum + ((limbo.drop k).map List.length).sum := by
    rw [← List.sum_append, ← List.map_append, List.take_append_drop]
  omega
theorem Limbo_nil (w : World) : Calls Try.prog 13 #[.pointer none] w fun e w' => e = .returned (.int .i64 0) ∧ w' = w := by
  go_enter Try.func13, Try.ntmps13
  go_wp2
  go_ret
  exact ⟨rfl, rfl⟩
set_option maxRecDepth 100000 in
theorem Limbo_calls {S : Nat → Prop} {w : World} {b : Nat} {now : Int} {said : List Int} {limbo : List (List (Int × Int))} (h : Epo w b S now said limbo) (hsz : waits limbo ≤ 1000000000) :
    Calls Try.prog 13 #[.pointer (some ⟨b, 0, none⟩)] w fun e w' => e = .returned (.int .i64 (waits limbo)) ∧ w' = w := by
  obtain ⟨⟨vs, vl, qs, h1, h2, h3, h4, h5, h6, h7⟩, hh, hl, hs, hw⟩ := h
  obtain ⟨av, cl, rfl⟩ : ∃ a c, vl = .slice a limbo.length c := by
    rcases row_cells h4 with ⟨rfl, h0, _⟩ | ⟨g, cap, cur, rfl, _⟩
    · exact ⟨none, 0, by rw [h0]⟩
    · exact ⟨_, _, rfl⟩
  have c2 : w.cell? ⟨b, 2, none⟩ = some (.slice av limbo.length cl) := h1.cell 2
  have h64 : limbo.length ≤ 64 := by omega
  have K4 := Lib.hid h4
  have K6 := Lib.hid h6
  clear h1 h2 h3 h4 h5 h6 h7 hl hs hw
  go_enter Try.func13, Try.ntmps13
  go_wp2
  go_loop [3, 13] (fun s i => ∃ k : Nat, k ≤ limbo.length ∧ i = .int .i64 k ∧ s = .int .i64 (waits (limbo.take k))) (fun _ i => limbo.length - (intOf i).toNat)
  case atStart => exact ⟨0, Nat.zero_le _, rfl, rfl⟩
  case round =>
    obtain ⟨k, hk, rfl, rfl⟩ := hrel
    by_cases hlt : k < limbo.length
    · obtain ⟨gl, cap, hv⟩ := ownsRow_form K4.out (by omega)
      simp only [Value.slice.injEq] at hv
      obtain ⟨rfl, _, rfl⟩ := hv
      obtain ⟨l, hl⟩ : ∃ l, limbo[k]? = some l := ⟨_, List.getElem?_eq_getElem hlt⟩
      obtain ⟨q, hq, hr, _⟩ := K6.out k l hl
      obtain ⟨a, cp, rfl, _, _⟩ := hr.form
      obtain ⟨cq, _, _⟩ := ownsRow_get K4.out k _ hq
      have hst := waits_take limbo k l hl
      have hle := waits_le limbo (k + 1)
      have hb : (waits (limbo.take k) : Int) + (l.length : Int) ≤ 1000000000 := by omega
      have HS := Lib.hid hst
      clear hst hle hr hq hl
      go_wp2
      go_round
      case rel => exact ⟨k + 1, by omega, by go_num, by rw [HS.out]; go_num⟩
      case measure => simp [intOf]; omega
    · obtain rfl : k = limbo.length := by omega
      clear hlt hk
      go_wp2
      go_ret
      exact ⟨rfl, rfl⟩
theorem form_own {w : World} {B : Nat} {t : TypeId} {v : Value} {n : Nat} {us : List Value} (h : w.ownsRow B t 1 v n us) : ∃ a c, v = .slice a n c := by
  rcases row_cells h with ⟨rfl, rfl, _⟩ | ⟨g, cap, cur, rfl, _⟩
  · exact ⟨none, 0, rfl⟩
  · exact ⟨_, _, rfl⟩
theorem info_i64 : (Try.prog.info? 2).map (fun i => (i.zero, i.size, i.bytes)) = some (some (.int .i64 0), 1, 8) := by kernel_rfl
theorem info_gones : (Try.prog.info? 59).map (fun i => (i.zero, i.size, i.bytes)) = some (some (.slice none 0 0), 1, 24) := by kernel_rfl
/-- How many threads there are. -/
def many (n : Int) : Nat := (min (max n 0) 64).toNat
set_option maxHeartbeats 1600000 in
set_option maxRecDepth 100000 in
theorem New_calls (n : Int) (w : World) : Calls Try.prog 10 #[.int .i64 n] w fun e w' => ∃ b, e = .returned (.pointer (some ⟨b, 0, none⟩)) ∧ Fr nob w w' ∧ Epo w' b (wide nob w w') 0 (List.replicate (many n) (-1)) (List.replicate (many n) []) := by
  obtain ⟨i0, hi, hz0, hz1, hz2⟩ := info_parts info_i64
  obtain ⟨j0, hj, jz0, jz1, jz2⟩ := info_parts info_gones
  go_enter Try.func10, Try.ntmps10
  go_upto_region 1 with fail
  go_cut [0] (fun s0 wx => s0 = .int .i64 (many n) ∧ wx = w)
  case first =>
    go_wp2_with fail
    all_goals
      go_meet
      refine ⟨?_, rfl⟩
      unfold many
      first | rw [show ((min (max n 0) 64).toNat : Int) = 0 from by omega] | rw [show ((min (max n 0) 64).toNat : Int) = 64 from by omega] | rw [show ((min (max n 0) 64).toNat : Int) = n from by omega]
  case rest =>
    obtain ⟨rfl, hw⟩ := hcut
    have hw := hw.symm
    subst hw
    have hN : many n ≤ 64 := by unfold many; omega
    generalize hNN : many n = N at *
    have HN := Lib.hid hNN
    clear hNN
    have hlm : N ≤ maxLen := by unfold maxLen; omega
    have hb2 : j0.bytes * N ≤ 281474976710656 := by rw [jz2]; omega
    go_wp2_with (at_make; refine wpList_make_full _ rfl _ _ 55 rfl w.heap.size 59 j0 (.slice none 0 0) 1 Try.underlying55 hj jz0 jz1 _ _ _ _ N rfl rfl rfl rfl hb2 hlm (Nat.le_refl _) ?_)
    intro w1 hown hgrow
    rw [toList_madeCells_one] at hown
    have F1 : Fr nob w w1 := Fr.of_grown hgrow
    have lw : w.heap.size < w1.heap.size := by
      rcases ownsRow_block hown (g := w.heap.size) rfl with ⟨_, c, hc⟩
      exact hc.lt
    have HB := Lib.hid (Blk.new w1 57 #[.int .i64 0, .slice none 0 0, .slice (some ⟨w.heap.size, 0, none⟩) N N])
    have HO := Lib.hid hown
    have HF := Lib.hid F1
    clear hown hgrow F1 hb2 hw
    go_wp2_with fail
    go_loopw [12] (fun i wr => ∃ (k : Nat) (vs : Value), k ≤ N ∧ i = .int .i64 k ∧ Fr nob w wr ∧ Blk wr w1.heap.size 57 #[.int .i64 0, vs, .slice (some ⟨w.heap.size, 0, none⟩) N N] ∧
      wr.ownsRow w.heap.size 2 1 vs k (List.replicate k (.int .i64 (-1))) ∧ wr.ownsRow w.heap.size 59 1 (.slice (some ⟨w.heap.size, 0, none⟩) N N) N (List.replicate N (.slice none 0 0))) (fun i _ => N - (intOf i).toNat)
    case atStart => exact ⟨0, _, Nat.zero_le _, rfl, HF.out.alloc _, HB.out, ⟨rfl, .inl ⟨rfl, rfl⟩⟩, ownsRow_fr HO.out ((Fr.refl nob _).alloc _) (fun _ _ x => x)⟩
    case round =>
      obtain ⟨k, vs, hk, rfl, F2, B2, O2, O3⟩ := hrel
      obtain ⟨av, cv, rfl⟩ := form_own O2
      have c1 : wr.cell? ⟨w1.heap.size, 1, none⟩ = some (.slice av k cv) := B2.cell 1
      have lb := B2.lt
      by_cases hlt : k < N
      · have hlm : k + 1 ≤ maxLen := by unfold maxLen; omega
        have hlb : (k + 1) * 8 ≤ 140737488355328 := by omega
        have hnt : (Value.slice av k cv).ownBlock ≠ some w1.heap.size := fun hx => by
          obtain ⟨_, c, hc⟩ := ownsRow_block O2 hx
          exact hc.ne B2 (by decide) rfl
        have lww : w.heap.size ≤ wr.heap.size := F2.size
        go_wp2_with (at_builtin; refine wpList_append_lies _ rfl _ _ _ rfl w.heap.size 2 i0 (.int .i64 0) 1 8 Try.underlying33 hi hz0 hz1 hz2 rfl (by decide) (.slice av k cv) k (List.replicate k (.int .i64 (-1))) rfl (O2.alloc _) ⟨wr.heap.size, 0, none⟩ 1 1 [.int .i64 (-1)] rfl rfl (World.news_of_block (cs := #[.int .i64 (-1)]) (t := 2) (fr := (0, 0)) (by exact Blk.new _ _ _)) (by simp [Value.oneCell']) (by decide) hlm hlb (by simp; omega) (wr.heap.size + 1) (by simp) ?_)
        intro g cap w3 hown hgrow hat hlt3
        have B3 := (B2.alloc (.cells #[.int .i64 (-1)] 2)).grown hgrow hnt
        have y0 : w3.cell? ⟨w1.heap.size, 1, none⟩ = some (.slice av k cv) := B3.cell 1
        have y1 : w3.frozen? ⟨w1.heap.size, 1, none⟩ = false := B3.froz 1
        have F3 : Fr (fun j => (Value.slice av k cv).ownBlock = some j) wr w3 := ((Fr.refl _ wr).alloc _).grown hgrow (fun j hj => .inl hj)
        have Fs := (Fr.refl (fun j => j = w1.heap.size) w3).setCell (p := ⟨w1.heap.size, 1, none⟩) (.inl rfl) (.slice (some ⟨g, 0, none⟩) (k + 1) cap)
        have R1 : Fr nob w (w3.setCell ⟨w1.heap.size, 1, none⟩ (.slice (some ⟨g, 0, none⟩) (k + 1) cap)) := (F2.trans F3 (fun j hj hx => by have := (ownsRow_block O2 hx).1; omega)).trans Fs (fun j hj hx => by omega)
        have R2 := B3.set 1 (.slice (some ⟨g, 0, none⟩) (k + 1) cap)
        have R3 : (w3.setCell ⟨w1.heap.size, 1, none⟩ (.slice (some ⟨g, 0, none⟩) (k + 1) cap)).ownsRow w.heap.size 2 1 (.slice (some ⟨g, 0, none⟩) (k + 1) cap) (k + 1) (List.replicate (k + 1) (.int .i64 (-1))) := by
          rw [List.replicate_succ']
          exact ownsRow_fr hown Fs (fun j hj hx => by obtain ⟨_, c, hc⟩ := ownsRow_block hown hj; exact hc.ne B3 (by decide) hx)
        have R4 : (w3.setCell ⟨w1.heap.size, 1, none⟩ (.slice (some ⟨g, 0, none⟩) (k + 1) cap)).ownsRow w.heap.size 59 1 (.slice (some ⟨w.heap.size, 0, none⟩) N N) N (List.replicate N (.slice none 0 0)) := by
          refine ownsRow_fr (ownsRow_fr O3 F3 (fun j hj hx => ?_)) Fs (fun j hj hx => ?_)
          · obtain ⟨_, c, hc⟩ := ownsRow_block O2 hx
            obtain ⟨_, c', hc'⟩ := ownsRow_block O3 hj
            exact hc.ne hc' (by decide) rfl
          · simp [Value.ownBlock] at hj; omega
        have RR := Lib.hid (And.intro R1 (And.intro R2 (And.intro R3 R4)))
        clear R1 R2 R3 R4 F3 Fs hown hgrow hat B3 O2 O3 B2 F2 c1
        go_wp2
        obtain ⟨R1, R2, R3, R4⟩ := RR.out
        exact ⟨⟨k + 1, _, by omega, by go_num, R1, R2, R3, R4⟩, by simp [intOf]; omega⟩
      · obtain rfl : k = N := by omega
        have hE : Epo wr w1.heap.size (wide nob w wr) 0 (List.replicate k (-1)) (List.replicate k []) := by
          refine ⟨⟨.slice av k cv, .slice (some ⟨w.heap.size, 0, none⟩) k k, List.replicate k (.slice none 0 0), B2, ?_, ?_, ?_, ?_, ?_, ?_⟩, .inr ⟨Nat.le_of_lt lw, lb⟩, ?_, by simp, by simp; exact hN⟩
          · rw [List.length_replicate, List.map_replicate]; exact ownsRow_base O2 (Nat.zero_le _)
          · intro g hg
            obtain ⟨hx, c, hc⟩ := ownsRow_block O2 hg
            exact .inr ⟨hx, hc.lt⟩
          · rw [List.length_replicate]; exact ownsRow_base O3 (Nat.zero_le _)
          · intro g hg
            obtain ⟨hx, c, hc⟩ := ownsRow_block O3 hg
            exact .inr ⟨hx, hc.lt⟩
          · intro i l hi'
            have hik : i < k := by
              have := (List.getElem?_eq_some_iff.1 hi').1
              simpa using this
            simp [List.getElem?_replicate, hik] at hi'
            subst hi'
            exact ⟨.slice none 0 0, by simp [hik], QRow.nil _ _ _, fun g hg => by simp [Value.ownBlock] at hg⟩
          · intro i j q q' g e1 e2 b1 b2
            have : q = .slice none 0 0 := by
              rw [List.getElem?_replicate] at e1
              split at e1
              · simpa using e1.symm
              · cases e1
            subst this
            simp [Value.ownBlock] at b1
          · rintro j (hj | hj)
            · exact hj.elim
            · exact hj.2
        have EE := Lib.hid hE
        clear hE O2 O3 B2 c1 hk hlt
        go_wp2
        go_ret
        exact ⟨_, rfl, F2, by rw [HN.out]; exact EE.out⟩
end Go.Proofs.Ytnoioldbddjkiaa
