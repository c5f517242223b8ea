/- The document's Take of what may be freed. No condition but that there are such epochs, and the bounds of size. -/
import Derived.Test.YtnoioldbddjkiaaEpoI
import Derived.Test.YtnoioldbddjkiaaAppT
namespace Go.Proofs.Ytnoioldbddjkiaa
open Go Go.RowKit
set_option linter.unusedVariables false
set_option linter.unusedSimpArgs false
theorem QRow.none1 (w : World) (t : TypeId) (sz : Nat) (a : Addr) : QRow w t sz (.slice (some a) 0 0) 0 [] := ⟨by simp, _, 0, rfl, Nat.le_refl _, Nat.zero_le _, .inl ⟨rfl, .inr ⟨_, rfl⟩⟩⟩
theorem goneC_one (l : List (Int × Int)) : ∀ u ∈ goneC l, u.oneCell' = true := by
  intro u hu
  simp only [goneC, List.mem_flatMap] at hu
  obtain ⟨p, _, hp⟩ := hu
  simp at hp
  rcases hp with rfl | rfl <;> rfl
set_option maxHeartbeats 1600000 in
set_option maxRecDepth 100000 in
theorem Take_ripe {S : Nat → Prop} {w : World} {b : Nat} {now : Int} {said : List Int} {limbo : List (List (Int × Int))} (h : Rfo w b S now said limbo) (t n : Int) (ht : isT t said.length = true) (node at_ : Int) (l : List (Int × Int)) (hl0 : limbo[t.toNat]? = some ((node, at_) :: l))
    (hn : -9223372036854775808 ≤ n ∧ n ≤ 9223372036854775807) (ha : -9223372036854775808 ≤ at_ ∧ at_ ≤ 9223372036854775807) (hr1 : ripe at_ n = true) (hsz : l.length ≤ 1000000) :
    Calls Try.prog 21 #[.pointer (some ⟨b, 0, none⟩), .int .i64 t, .int .i64 n] w fun e w' => e = .returned (.int .i64 node) ∧ Fr S w w' ∧ Rfo w' b (wide S w w') now said (limbo.set t.toNat l) := by
  obtain ⟨⟨vs, vl, qs, h1, h2, h3, h4, h5, h6, h7⟩, hh, hl, hs, hw⟩ := h
  obtain ⟨av, cv, rfl⟩ := form_own h2
  obtain ⟨al, cl, rfl⟩ := form_own h4
  have c1 : w.cell? ⟨b, 1, none⟩ = some (.slice av said.length cv) := h1.cell 1
  have c2 : w.cell? ⟨b, 2, none⟩ = some (.slice al limbo.length cl) := h1.cell 2
  obtain ⟨t0, t1⟩ := isT_true ht
  have t2 := t1
  rw [hs] at t1
  obtain ⟨q, hq, hr, hg⟩ := h6 t.toNat _ hl0
  obtain ⟨a, cap, rfl, _, hcm⟩ := hr.form
  obtain ⟨g, off, cur, rfl, hgb, hcap, hat⟩ := hr.at (by simp)
  have k0 : w.cell? ⟨g, off, none⟩ = some (.int .i64 node) := hat 0 _ rfl
  have k1 : w.cell? ⟨g, off + 1, none⟩ = some (.int .i64 at_) := hat 1 _ rfl
  obtain ⟨gl, cap', hv⟩ := ownsRow_form h4 (by omega)
  simp only [Value.slice.injEq] at hv
  obtain ⟨rfl, _, rfl⟩ := hv
  obtain ⟨cq, fq, hti⟩ := ownsRow_get h4 t.toNat _ hq
  obtain ⟨_, cg, hgl⟩ := ownsRow_block h4 (g := gl) rfl
  have hc := Lib.hid (refReady_calls at_ n w hn ha)
  have HR := Lib.hid hr1
  have lb := h1.lt
  have lgl := hgl.lt
  have lgb := hgb.lt
  obtain ⟨i0, hi, hz0, hz1, hz2⟩ := info_parts info_Gone
  simp only [List.length_cons] at cq hcap
  have hlm : 0 + l.length ≤ maxLen := by unfold maxLen; omega
  have hlb : (0 + l.length) * 16 ≤ 140737488355328 := by omega
  have KEEP := Lib.hid (And.intro h1 (And.intro h2 (And.intro h3 (And.intro h4 (And.intro h5 (And.intro h6 (And.intro h7 (And.intro hl (And.intro hs (And.intro hw (And.intro hq (And.intro hg hr))))))))))))
  clear ht hl0 hn ha hr1 h1 h2 h3 h4 h5 h6 h7 hl hs hw hr hq hat hg
  have g1 : (((l.length : Int) + 1) == 0) = false := by simp; omega
  have g2 : (1 : Int) ≤ (l.length : Int) + 1 := by omega
  by_cases hc1 : cap = 1
  · subst hc1
    obtain rfl : l = [] := List.eq_nil_of_length_eq_zero (by omega)
    simp only [List.length_nil] at *
    go_enter Try.func21, Try.ntmps21
    go_wp2_with (go_at_call 14; refine hc.out.mono ?_; rw [HR.out]; rintro e w' ⟨rfl, hw⟩; have hw := hw.symm; subst hw)
    have RX := Lib.hid (((QRow.pop (n := 0) KEEP.out.2.2.2.2.2.2.2.2.2.2.2.2).2 rfl).rdv)
    go_region_law (refine step_append_typed _ (by rfl) _ _ _ (by rfl) 51 i0 (.agg #[.int .i64 0, .int .i64 0]) 2 16 Try.underlying49 hi hz0 hz1 hz2 rfl (by decide) _ 0 [] (by rfl) (QRow.none1 _ _ _ _) (.slice (some ⟨g, off, none⟩) 0 0) 0 (goneC []) (by rfl) (RX.out.fr (S := nob) (by repeat (first | exact Fr.refl _ _ | apply Fr.drew | apply Fr.alloc)) (fun _ _ _ x => x)) (goneC_one _) hlm hlb ?_; rw [Nat.zero_add]; intro a2 cc2 w1 q1 grow1 hat1; have f1 : Fr nob w w1 := Fr.grown (by repeat (first | exact Fr.refl _ _ | apply Fr.drew | apply Fr.alloc)) grow1 (fun k hk => .inr (by simp [Value.ownBlock] at hk; omega)); have y0 := f1.cell' cq (fun x => x); have y1 := f1.froz' cq fq (fun x => x); have y2 := f1.cell' c2 (fun x => x))
    all_goals
      obtain ⟨h1, h2, h3, h4, h5, h6, h7, hl, hs, hw, hq, hg, hr⟩ := KEEP.out
      have P := Rfo_put (l' := []) h1 h2 h3 h4 h5 h6 h7 hh hl hs hw hti hq (f1.mono (fun _ _ x => x.elim)) (by simpa using q1) (fun k hk => by
        rcases hat1 k hk with ⟨_, rfl, hv⟩ | ⟨hx, hc⟩
        · rw [hv] at hk
          simp [Value.ownBlock] at hk
          subst hk
          exact ⟨.inr (Nat.le_refl _), #[], by repeat (first | exact Blk.new' (by simp) _ _ | apply Blk.drew | apply Blk.alloc)⟩
        · refine ⟨.inr ?_, hc⟩
          rcases hx with hx | hx
          · simp [Value.ownBlock] at hx; omega
          · simp at hx; omega)
      have PP := Lib.hid P
      clear P h1 h2 h3 h4 h5 h6 h7 hl hs hw hq hg hr KEEP q1 grow1 hat1 f1
      go_wp2_with fail
      go_ret
      exact ⟨rfl, PP.out⟩
  · have hc2 : 2 ≤ cap := by omega
    go_enter Try.func21, Try.ntmps21
    go_wp2_with (go_at_call 14; refine hc.out.mono ?_; rw [HR.out]; rintro e w' ⟨rfl, hw⟩; have hw := hw.symm; subst hw)
    have RX := Lib.hid ((QRow.pop (n := l.length) KEEP.out.2.2.2.2.2.2.2.2.2.2.2.2).1.rdv)
    go_region_law (refine step_append_typed _ (by rfl) _ _ _ (by rfl) 51 i0 (.agg #[.int .i64 0, .int .i64 0]) 2 16 Try.underlying49 hi hz0 hz1 hz2 rfl (by decide) _ 0 [] (by rfl) (QRow.none1 _ _ _ _) (.slice (some ⟨g, off + 2, none⟩) l.length (cap - 1)) l.length (goneC l) (by rfl) (RX.out.fr (S := nob) (by repeat (first | exact Fr.refl _ _ | apply Fr.drew | apply Fr.alloc)) (fun _ _ _ x => x)) (goneC_one _) hlm hlb ?_; rw [Nat.zero_add]; intro a2 cc2 w1 q1 grow1 hat1; have f1 : Fr nob w w1 := Fr.grown (by repeat (first | exact Fr.refl _ _ | apply Fr.drew | apply Fr.alloc)) grow1 (fun k hk => .inr (by simp [Value.ownBlock] at hk; omega)); have y0 := f1.cell' cq (fun x => x); have y1 := f1.froz' cq fq (fun x => x); have y2 := f1.cell' c2 (fun x => x))
    all_goals
      obtain ⟨h1, h2, h3, h4, h5, h6, h7, hl, hs, hw, hq, hg, hr⟩ := KEEP.out
      have P := Rfo_put (l' := l) h1 h2 h3 h4 h5 h6 h7 hh hl hs hw hti hq (f1.mono (fun _ _ x => x.elim)) (by simpa using q1) (fun k hk => by
        rcases hat1 k hk with ⟨_, rfl, hv⟩ | ⟨hx, hc⟩
        · rw [hv] at hk
          simp [Value.ownBlock] at hk
          subst hk
          exact ⟨.inr (Nat.le_refl _), #[], by repeat (first | exact Blk.new' (by simp) _ _ | apply Blk.drew | apply Blk.alloc)⟩
        · refine ⟨.inr ?_, hc⟩
          rcases hx with hx | hx
          · simp [Value.ownBlock] at hx; omega
          · simp at hx; omega)
      have PP := Lib.hid P
      clear P h1 h2 h3 h4 h5 h6 h7 hl hs hw hq hg hr KEEP q1 grow1 hat1 f1
      go_wp2_with fail
      go_ret
      exact ⟨rfl, PP.out⟩
end Go.Proofs.Ytnoioldbddjkiaa
