/- The document's New of epochs. No condition. -/
import Derived.Test.YtnoioldbddjkiaaEpoG
namespace Go.Proofs.Ytnoioldbddjkiaa
open Go Go.RowKit
set_option linter.unusedVariables false
set_option linter.unusedSimpArgs false
theorem info_Gones : (Try.prog.info? 49).map (fun i => (i.zero, i.size, i.bytes)) = some (some (.slice none 0 0), 1, 24) := by kernel_rfl
theorem info_Gone : (Try.prog.info? 51).map (fun i => (i.zero, i.size, i.bytes)) = some (some (.agg #[.int .i64 0, .int .i64 0]), 2, 16) := by kernel_rfl
theorem many_step {n : Int} {k : Nat} (h : k < many n) : (k : Int) < n ∧ (k : Int) < 64 := by unfold many at h; omega
theorem many_stop {n : Int} {k : Nat} (h : k = many n) : ¬ ((k : Int) < n) ∨ ¬ ((k : Int) < 64) := by unfold many at h; omega
set_option maxHeartbeats 1600000 in
set_option maxRecDepth 100000 in
theorem New07_calls (n : Int) (hn : -9223372036854775808 ≤ n ∧ n ≤ 9223372036854775807) (w : World) : Calls Try.prog 20 #[.int .i64 n] w fun e w' => ∃ b, e = .returned (.pointer (some ⟨b, 0, none⟩)) ∧ Fr nob w w' ∧ Rfo w' b (wide nob w w') 0 (List.replicate (many n) (-1)) (List.replicate (many n) []) := by
  obtain ⟨i0, hi, hz0, hz1, hz2⟩ := info_parts info_i64
  obtain ⟨j0, hj, jz0, jz1, jz2⟩ := info_parts info_Gones
  have hN : many n ≤ 64 := by unfold many; omega
  go_enter Try.func20, Try.ntmps20
  go_wp2_with fail
  go_loopw [4] (fun i wr => ∃ (k : Nat) (vs vl : Value), k ≤ many n ∧ i = .int .i64 k ∧ Fr nob w wr ∧ Blk wr w.heap.size 48 #[.int .i64 0, vs, vl] ∧
      wr.ownsRow w.heap.size 2 1 vs k (List.replicate k (.int .i64 (-1))) ∧ wr.ownsRow w.heap.size 49 1 vl k (List.replicate k (.slice none 0 0))) (fun i _ => many n - (intOf i).toNat)
  case atStart =>
    exact ⟨0, _, _, Nat.zero_le _, rfl, (Fr.refl _ _).alloc _, Blk.new _ _ _, ⟨rfl, .inl ⟨rfl, rfl⟩⟩, ⟨rfl, .inl ⟨rfl, rfl⟩⟩⟩
  case round =>
    obtain ⟨k, vs, vl, hk, rfl, F2, B2, O2, O3⟩ := hrel
    obtain ⟨av, cv, rfl⟩ := form_own O2
    obtain ⟨al, cl, rfl⟩ := form_own O3
    have c1 : wr.cell? ⟨w.heap.size, 1, none⟩ = some (.slice av k cv) := B2.cell 1
    have c2 : wr.cell? ⟨w.heap.size, 2, none⟩ = some (.slice al k cl) := B2.cell 2
    have lb := B2.lt
    by_cases hlt : k < many n
    · obtain ⟨hk0, hk1⟩ := many_step hlt
      have hlm : k + 1 ≤ maxLen := by unfold maxLen; omega
      have hlb : (k + 1) * 8 ≤ 140737488355328 := by omega
      have hlb' : (k + 1) * 24 ≤ 140737488355328 := by omega
      have hnt : (Value.slice av k cv).ownBlock ≠ some w.heap.size := fun hx => by
        obtain ⟨_, c, hc⟩ := ownsRow_block O2 hx
        exact hc.ne B2 (by decide) rfl
      have hnt' : (Value.slice al k cl).ownBlock ≠ some w.heap.size := fun hx => by
        obtain ⟨_, c, hc⟩ := ownsRow_block O3 hx
        exact hc.ne B2 (by decide) rfl
      have lww : w.heap.size ≤ wr.heap.size := F2.size
      go_wp2_with (at_builtin; refine wpList_append_lies _ rfl _ _ _ rfl w.heap.size 2 i0 (.int .i64 0) 1 8 Try.underlying33 hi hz0 hz1 hz2 rfl (by decide) (.slice av k cv) k (List.replicate k (.int .i64 (-1))) rfl (O2.alloc _) ⟨wr.heap.size, 0, none⟩ 1 1 [.int .i64 (-1)] rfl rfl (World.news_of_block (cs := #[.int .i64 (-1)]) (t := 2) (fr := (0, 0)) (by exact Blk.new _ _ _)) (by simp [Value.oneCell']) (by decide) hlm hlb (by simp; omega) (wr.heap.size + 1) (by simp) ?_)
      intro g cap w3 hown hgrow hat hlt3
      have B3 := (B2.alloc (.cells #[.int .i64 (-1)] 2)).grown hgrow hnt
      have y0 : w3.cell? ⟨w.heap.size, 1, none⟩ = some (.slice av k cv) := B3.cell 1
      have y1 : w3.frozen? ⟨w.heap.size, 1, none⟩ = false := B3.froz 1
      have y2 : w3.cell? ⟨w.heap.size, 2, none⟩ = some (.slice al k cl) := B3.cell 2
      have F3 : Fr (fun j => (Value.slice av k cv).ownBlock = some j) wr w3 := ((Fr.refl _ wr).alloc _).grown hgrow (fun j hj => .inl hj)
      have n3 : ∀ g, (Value.slice al k cl).ownBlock = some g → (Value.slice av k cv).ownBlock ≠ some g := fun g hg hx => by
        obtain ⟨_, c, hc⟩ := ownsRow_block O3 hg
        obtain ⟨_, c', hc'⟩ := ownsRow_block O2 hx
        exact hc.ne hc' (by decide) rfl
      have O3' := ownsRow_fr O3 F3 (fun g hg hx => n3 g hg hx)
      have Fs := (Fr.refl (fun j => j = w.heap.size) w3).setCell (p := ⟨w.heap.size, 1, none⟩) (.inl rfl) (.slice (some ⟨g, 0, none⟩) (k + 1) cap)
      have F4 : Fr nob w (w3.setCell ⟨w.heap.size, 1, none⟩ (.slice (some ⟨g, 0, none⟩) (k + 1) cap)) := (F2.trans F3 (fun j hj hx => by have := (ownsRow_block O2 hx).1; omega)).trans Fs (fun j hj hx => by omega)
      have B4 := B3.set 1 (.slice (some ⟨g, 0, none⟩) (k + 1) cap)
      have R3 : (w3.setCell ⟨w.heap.size, 1, none⟩ (.slice (some ⟨g, 0, none⟩) (k + 1) cap)).ownsRow w.heap.size 2 1 (.slice (some ⟨g, 0, none⟩) (k + 1) cap) (k + 1) (List.replicate (k + 1) (.int .i64 (-1))) := by
        rw [List.replicate_succ']
        exact ownsRow_fr hown Fs (fun j hj hx => by obtain ⟨_, c, hc⟩ := ownsRow_block hown hj; exact hc.ne B3 (by decide) hx)
      have O4 := ownsRow_fr O3' Fs (fun j hj hx => by obtain ⟨_, c, hc⟩ := ownsRow_block O3' hj; exact hc.ne B3 (by decide) hx)
      have n4 : ∀ j, (Value.slice (some ⟨g, 0, none⟩) (k + 1) cap).ownBlock = some j → (Value.slice al k cl).ownBlock ≠ some j := fun j hj hx => by
        obtain ⟨_, c, hc⟩ := ownsRow_block R3 hj
        obtain ⟨_, c', hc'⟩ := ownsRow_block O4 hx
        exact hc.ne hc' (by decide) rfl
      have RR := Lib.hid (And.intro F4 (And.intro B4 (And.intro R3 (And.intro O4 n4))))
      clear R3 O4 n4 n3 O3' F3 hgrow hown hat B2 O2 O3 F2 c1 c2
      have s3 : (w3.setCell ⟨w.heap.size, 1, none⟩ (.slice (some ⟨g, 0, none⟩) (k + 1) cap)).heap.size = w3.heap.size := by simp [World.setCell]
      have lw3 : w.heap.size ≤ w3.heap.size := by have := RR.out.1.size; omega
      go_wp2_with (at_builtin; refine wpList_append_lies _ rfl _ _ _ rfl w.heap.size 49 j0 (.slice none 0 0) 1 24 Try.underlying46 hj jz0 jz1 jz2 rfl (by decide) (.slice al k cl) k (List.replicate k (.slice none 0 0)) rfl (RR.out.2.2.2.1.alloc _) ⟨w3.heap.size, 0, none⟩ 1 1 [.slice none 0 0] rfl rfl (World.news_of_block (cs := #[.slice none 0 0]) (t := 49) (fr := (0, 0)) (by exact Blk.new' s3 _ _)) (by simp [Value.oneCell']) (by decide) hlm hlb' (by simp; omega) (w3.heap.size + 1) (by simp) ?_)
      intro g2 cap2 w5 hown hgrow hat hlt5
      obtain ⟨F4, B4, R3, O4, n4⟩ := RR.out
      generalize w3.setCell ⟨w.heap.size, 1, none⟩ (.slice (some ⟨g, 0, none⟩) (k + 1) cap) = w4 at *
      have B4 : Blk w4 w.heap.size 48 #[.int .i64 0, .slice (some ⟨g, 0, none⟩) (k + 1) cap, .slice al k cl] := B4
      have B5 := (B4.alloc (.cells #[.slice none 0 0] 49)).grown hgrow hnt'
      have z0 : w5.cell? ⟨w.heap.size, 2, none⟩ = some (.slice al k cl) := B5.cell 2
      have z1 : w5.frozen? ⟨w.heap.size, 2, none⟩ = false := B5.froz 2
      have F5 : Fr (fun j => (Value.slice al k cl).ownBlock = some j) w4 w5 := ((Fr.refl _ w4).alloc _).grown hgrow (fun j hj => .inl hj)
      have Fs := (Fr.refl (fun j => j = w.heap.size) w5).setCell (p := ⟨w.heap.size, 2, none⟩) (.inl rfl) (.slice (some ⟨g2, 0, none⟩) (k + 1) cap2)
      have P1 : Fr nob w (w5.setCell ⟨w.heap.size, 2, none⟩ (.slice (some ⟨g2, 0, none⟩) (k + 1) cap2)) := (F4.trans F5 (fun j hj hx => by have := (ownsRow_block O4 hx).1; omega)).trans Fs (fun j hj hx => by omega)
      have P2 := B5.set 2 (.slice (some ⟨g2, 0, none⟩) (k + 1) cap2)
      have P3 := ownsRow_fr (ownsRow_fr R3 F5 (fun j hj hx => n4 j hj hx)) Fs (fun j hj hx => by obtain ⟨_, c, hc⟩ := ownsRow_block (ownsRow_fr R3 F5 (fun j hj hx => n4 j hj hx)) hj; exact hc.ne B5 (by decide) hx)
      have P4 : (w5.setCell ⟨w.heap.size, 2, none⟩ (.slice (some ⟨g2, 0, none⟩) (k + 1) cap2)).ownsRow w.heap.size 49 1 (.slice (some ⟨g2, 0, none⟩) (k + 1) cap2) (k + 1) (List.replicate (k + 1) (.slice none 0 0)) := by
        rw [List.replicate_succ']
        exact ownsRow_fr hown Fs (fun j hj hx => by obtain ⟨_, c, hc⟩ := ownsRow_block hown hj; exact hc.ne B5 (by decide) hx)
      have PP := Lib.hid (And.intro P1 (And.intro P2 (And.intro P3 P4)))
      clear P1 P2 P3 P4 F4 B4 R3 O4 n4 RR Fs F5 hown hgrow hat B5
      go_wp2_with fail
      obtain ⟨P1, P2, P3, P4⟩ := PP.out
      exact ⟨⟨k + 1, _, _, by omega, by go_num, P1, P2, P3, P4⟩, by simp [intOf]; omega⟩
    · have hkm : k = many n := by omega
      have hE : Rfo wr w.heap.size (wide nob w wr) 0 (List.replicate k (-1)) (List.replicate k []) := by
        refine ⟨⟨.slice av k cv, .slice al k cl, List.replicate k (.slice none 0 0), B2, ?_, ?_, ?_, ?_, ?_, ?_⟩, .inr ⟨Nat.le_refl _, lb⟩, ?_, by simp, by simp; omega⟩
        · rw [List.length_replicate, List.map_replicate]; exact ownsRow_base O2 (Nat.zero_le _)
        · intro g hg
          obtain ⟨hx, c, hc⟩ := ownsRow_block O2 hg
          exact .inr ⟨hx, hc.lt⟩
        · rw [List.length_replicate]; exact ownsRow_base O3 (Nat.zero_le _)
        · intro g hg
          obtain ⟨hx, c, hc⟩ := ownsRow_block O3 hg
          exact .inr ⟨hx, hc.lt⟩
        · intro i l hi'
          have hik : i < k := by
            have := (List.getElem?_eq_some_iff.1 hi').1
            simpa using this
          simp [List.getElem?_replicate, hik] at hi'
          subst hi'
          exact ⟨.slice none 0 0, by simp [hik], QRow.nil _ _ _, fun g hg => by simp [Value.ownBlock] at hg⟩
        · intro i j q q' g e1 e2 b1 b2
          have : q = .slice none 0 0 := by
            rw [List.getElem?_replicate] at e1
            split at e1
            · simpa using e1.symm
            · cases e1
          subst this
          simp [Value.ownBlock] at b1
        · rintro j (hj | hj)
          · exact hj.elim
          · exact hj.2
      have hs := many_stop hkm
      have EE := Lib.hid hE
      have HK := Lib.hid hkm
      clear hE O2 O3 B2 c1 c2 hk hlt hkm
      by_cases h1 : (k : Int) < n
      · have h2 : ¬ ((k : Int) < 64) := by omega
        clear hs
        go_wp2
        go_ret
        exact ⟨_, rfl, F2, by rw [← HK.out]; exact EE.out⟩
      · clear hs
        go_wp2
        go_ret
        exact ⟨_, rfl, F2, by rw [← HK.out]; exact EE.out⟩
end Go.Proofs.Ytnoioldbddjkiaa
