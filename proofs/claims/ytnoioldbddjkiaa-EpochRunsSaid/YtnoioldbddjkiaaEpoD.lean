/- The epochs' Ready where something waits. No condition but that there are such epochs, and that the numbers are of 64 bits. -/
import Derived.Test.YtnoioldbddjkiaaEpoC
namespace Go.Proofs.Ytnoioldbddjkiaa
open Go Go.RowKit
set_option linter.unusedVariables false
set_option linter.unusedSimpArgs false
theorem u64_gap {n a : Int} (hn0 : -9223372036854775808 ≤ n) (hn1 : n ≤ 9223372036854775807) (ha0 : -9223372036854775808 ≤ a) (ha1 : a ≤ 9223372036854775807) (h : a ≤ n) :
    IntKind.u64.wrap (IntKind.u64.wrap n - IntKind.u64.wrap a) = n - a := by
  simp [IntKind.wrap, IntKind.signed, IntKind.bits]
  omega
set_option maxHeartbeats 1600000 in
set_option maxRecDepth 100000 in
theorem Ready_low {S : Nat → Prop} {w : World} {b : Nat} {now : Int} {said : List Int} {limbo : List (List (Int × Int))} (h : Epo w b S now said limbo) (t n : Int) (ht : isT t said.length = true) (node at_ : Int) (l : List (Int × Int)) (hl0 : limbo[t.toNat]? = some ((node, at_) :: l))
    (hn : -9223372036854775808 ≤ n ∧ n ≤ 9223372036854775807) (ha : -9223372036854775808 ≤ at_ ∧ at_ ≤ 9223372036854775807) (hr1 : n < at_) :
    Calls Try.prog 12 #[.pointer (some ⟨b, 0, none⟩), .int .i64 t, .int .i64 n] w fun e w' => e = .returned (.int .i64 0) ∧ Fr nob w w' := by
  have hin := Lib.hid (in_calls h t)
  have H := Lib.hid h
  rw [ht] at hin
  obtain ⟨t0, t1⟩ := isT_true ht
  obtain ⟨⟨vs, vl, qs, h1, h2, h3, h4, h5, h6, h7⟩, hh, hl, hs, hw⟩ := h
  rw [hs] at t1
  obtain ⟨gl, cl, rfl⟩ := ownsRow_form h4 (by omega)
  obtain ⟨q, hq, hr, hg⟩ := h6 t.toNat _ hl0
  obtain ⟨a, cap, rfl, _, _⟩ := hr.form
  obtain ⟨cq, fq, hti⟩ := ownsRow_get h4 t.toNat _ hq
  obtain ⟨g, off, cur, rfl, hgb, hcap, hat⟩ := hr.at (by simp)
  have c2 : w.cell? ⟨b, 2, none⟩ = some (.slice (some ⟨gl, 0, none⟩) limbo.length cl) := h1.cell 2
  have a0 : w.cell? ⟨g, off, none⟩ = some (.int .i64 node) := hat 0 _ rfl
  have a1 : w.cell? ⟨g, off + 1, none⟩ = some (.int .i64 at_) := hat 1 _ rfl
  have lgb := hgb.lt
  have lbb := h1.lt
  obtain ⟨_, cg, hgl⟩ := ownsRow_block h4 (g := gl) rfl
  have lgl := hgl.lt
  obtain ⟨hn0, hn1⟩ := hn
  obtain ⟨ha0, ha1⟩ := ha
  have KEEP := Lib.hid (And.intro h1 (And.intro h2 (And.intro h3 (And.intro h4 (And.intro h5 (And.intro h6 (And.intro h7 (And.intro hl (And.intro hs (And.intro hw (And.intro hq (And.intro hg hr))))))))))))
  clear h1 h2 h3 h4 h5 h6 h7 hl hs hw ht hl0 hq hg hr hat
  simp only [List.length_cons] at cq hcap
  go_enter Try.func12, Try.ntmps12
  go_wp2_with (go_at_call 23; refine hin.out.mono ?_; rintro e w' ⟨rfl, hw⟩; have hw := hw.symm; subst hw)
  go_ret
  exact ⟨rfl, (Fr.refl _ _).alloc _⟩
set_option maxHeartbeats 1600000 in
set_option maxRecDepth 100000 in
theorem Ready_soon {S : Nat → Prop} {w : World} {b : Nat} {now : Int} {said : List Int} {limbo : List (List (Int × Int))} (h : Epo w b S now said limbo) (t n : Int) (ht : isT t said.length = true) (node at_ : Int) (l : List (Int × Int)) (hl0 : limbo[t.toNat]? = some ((node, at_) :: l))
    (hn : -9223372036854775808 ≤ n ∧ n ≤ 9223372036854775807) (ha : -9223372036854775808 ≤ at_ ∧ at_ ≤ 9223372036854775807) (hr1 : at_ ≤ n) (hr2 : n - at_ < 3) :
    Calls Try.prog 12 #[.pointer (some ⟨b, 0, none⟩), .int .i64 t, .int .i64 n] w fun e w' => e = .returned (.int .i64 0) ∧ Fr nob w w' := by
  have hin := Lib.hid (in_calls h t)
  have H := Lib.hid h
  rw [ht] at hin
  obtain ⟨t0, t1⟩ := isT_true ht
  obtain ⟨⟨vs, vl, qs, h1, h2, h3, h4, h5, h6, h7⟩, hh, hl, hs, hw⟩ := h
  rw [hs] at t1
  obtain ⟨gl, cl, rfl⟩ := ownsRow_form h4 (by omega)
  obtain ⟨q, hq, hr, hg⟩ := h6 t.toNat _ hl0
  obtain ⟨a, cap, rfl, _, _⟩ := hr.form
  obtain ⟨cq, fq, hti⟩ := ownsRow_get h4 t.toNat _ hq
  obtain ⟨g, off, cur, rfl, hgb, hcap, hat⟩ := hr.at (by simp)
  have c2 : w.cell? ⟨b, 2, none⟩ = some (.slice (some ⟨gl, 0, none⟩) limbo.length cl) := h1.cell 2
  have a0 : w.cell? ⟨g, off, none⟩ = some (.int .i64 node) := hat 0 _ rfl
  have a1 : w.cell? ⟨g, off + 1, none⟩ = some (.int .i64 at_) := hat 1 _ rfl
  have lgb := hgb.lt
  have lbb := h1.lt
  obtain ⟨_, cg, hgl⟩ := ownsRow_block h4 (g := gl) rfl
  have lgl := hgl.lt
  obtain ⟨hn0, hn1⟩ := hn
  obtain ⟨ha0, ha1⟩ := ha
  have KEEP := Lib.hid (And.intro h1 (And.intro h2 (And.intro h3 (And.intro h4 (And.intro h5 (And.intro h6 (And.intro h7 (And.intro hl (And.intro hs (And.intro hw (And.intro hq (And.intro hg hr))))))))))))
  clear h1 h2 h3 h4 h5 h6 h7 hl hs hw ht hl0 hq hg hr hat
  simp only [List.length_cons] at cq hcap
  have hgap := u64_gap hn0 hn1 ha0 ha1 hr1
  go_enter Try.func12, Try.ntmps12
  go_wp2_with (go_at_call 23; refine hin.out.mono ?_; rintro e w' ⟨rfl, hw⟩; have hw := hw.symm; subst hw)
  go_ret
  exact ⟨rfl, (Fr.refl _ _).alloc _⟩
set_option maxHeartbeats 1600000 in
set_option maxRecDepth 100000 in
theorem Ready_ripe {S : Nat → Prop} {w : World} {b : Nat} {now : Int} {said : List Int} {limbo : List (List (Int × Int))} (h : Epo w b S now said limbo) (t n : Int) (ht : isT t said.length = true) (node at_ : Int) (l : List (Int × Int)) (hl0 : limbo[t.toNat]? = some ((node, at_) :: l))
    (hn : -9223372036854775808 ≤ n ∧ n ≤ 9223372036854775807) (ha : -9223372036854775808 ≤ at_ ∧ at_ ≤ 9223372036854775807) (hr1 : at_ ≤ n) (hr2 : 3 ≤ n - at_) :
    Calls Try.prog 12 #[.pointer (some ⟨b, 0, none⟩), .int .i64 t, .int .i64 n] w fun e w' => e = .returned (.int .i64 node) ∧ Fr S w w' ∧ Epo w' b (wide S w w') now said (limbo.set t.toNat l) := by
  have hin := Lib.hid (in_calls h t)
  have H := Lib.hid h
  rw [ht] at hin
  obtain ⟨t0, t1⟩ := isT_true ht
  obtain ⟨⟨vs, vl, qs, h1, h2, h3, h4, h5, h6, h7⟩, hh, hl, hs, hw⟩ := h
  rw [hs] at t1
  obtain ⟨gl, cl, rfl⟩ := ownsRow_form h4 (by omega)
  obtain ⟨q, hq, hr, hg⟩ := h6 t.toNat _ hl0
  obtain ⟨a, cap, rfl, _, _⟩ := hr.form
  obtain ⟨cq, fq, hti⟩ := ownsRow_get h4 t.toNat _ hq
  obtain ⟨g, off, cur, rfl, hgb, hcap, hat⟩ := hr.at (by simp)
  have c2 : w.cell? ⟨b, 2, none⟩ = some (.slice (some ⟨gl, 0, none⟩) limbo.length cl) := h1.cell 2
  have a0 : w.cell? ⟨g, off, none⟩ = some (.int .i64 node) := hat 0 _ rfl
  have a1 : w.cell? ⟨g, off + 1, none⟩ = some (.int .i64 at_) := hat 1 _ rfl
  have lgb := hgb.lt
  have lbb := h1.lt
  obtain ⟨_, cg, hgl⟩ := ownsRow_block h4 (g := gl) rfl
  have lgl := hgl.lt
  obtain ⟨hn0, hn1⟩ := hn
  obtain ⟨ha0, ha1⟩ := ha
  have KEEP := Lib.hid (And.intro h1 (And.intro h2 (And.intro h3 (And.intro h4 (And.intro h5 (And.intro h6 (And.intro h7 (And.intro hl (And.intro hs (And.intro hw (And.intro hq (And.intro hg hr))))))))))))
  clear h1 h2 h3 h4 h5 h6 h7 hl hs hw ht hl0 hq hg hr hat
  simp only [List.length_cons] at cq hcap
  have hgap := u64_gap hn0 hn1 ha0 ha1 hr1
  by_cases hc1 : cap = 1
  · subst hc1
    obtain rfl : l = [] := List.eq_nil_of_length_eq_zero (by omega)
    simp only [List.length_nil] at *
    go_enter Try.func12, Try.ntmps12
    go_wp2_with (go_at_call 23; refine hin.out.mono ?_; rintro e w' ⟨rfl, hw⟩; have hw := hw.symm; subst hw)
    go_region
    obtain ⟨h1, h2, h3, h4, h5, h6, h7, hl, hs, hw, hq, hg, hr⟩ := KEEP.out
    have P := Epo_put (w1 := w) (q' := .slice (some ⟨g, off, none⟩) 0 0) (l' := []) h1 h2 h3 h4 h5 h6 h7 hh hl hs hw hti hq (Fr.refl _ w) ((QRow.pop (n := 0) hr).2 rfl) (fun k hk => by
      simp [Value.ownBlock] at hk
      subst hk
      exact ⟨.inl rfl, cur, hgb⟩)
    have Fa := ((Fr.refl nob (w.setCell ⟨gl, t.toNat, none⟩ (.slice (some ⟨g, off, none⟩) 0 0))).alloc (.cells #[.int .i64 node, .int .i64 at_] 61)).drew
    have E2 := (P.2.fr Fa (fun _ _ x => x)).more (S' := wide S w ((w.setCell ⟨gl, t.toNat, none⟩ (.slice (some ⟨g, off, none⟩) 0 0)).alloc (.cells #[.int .i64 node, .int .i64 at_] 61)).drew) (fun k hk => by rcases hk with hk | hk; exact .inl hk; exact .inr ⟨hk.1, Nat.lt_of_lt_of_le hk.2 Fa.size⟩) (fun k hk => by rcases hk with hk | hk; exact Nat.lt_of_lt_of_le (hl k hk) (P.1.trans Fa (fun _ _ x => x.elim)).size; exact hk.2)
    have PP := Lib.hid (And.intro (P.1.trans Fa (fun _ _ x => x.elim)) E2)
    clear P Fa E2 KEEP h1 h2 h3 h4 h5 h6 h7 hl hs hw hq hg hr hgap
    go_wp2
    go_ret
    exact ⟨rfl, PP.out⟩
  · have hc2 : 2 ≤ cap := by omega
    have HC := Lib.hid hc1
    clear hc1
    go_enter Try.func12, Try.ntmps12
    go_wp2_with (go_at_call 23; refine hin.out.mono ?_; rintro e w' ⟨rfl, hw⟩; have hw := hw.symm; subst hw)
    go_region
    obtain ⟨h1, h2, h3, h4, h5, h6, h7, hl, hs, hw, hq, hg, hr⟩ := KEEP.out
    have P := Epo_put (w1 := w) (q' := .slice (some ⟨g, off + 2, none⟩) l.length (cap - 1)) (l' := l) h1 h2 h3 h4 h5 h6 h7 hh hl hs hw hti hq (Fr.refl _ w) ((QRow.pop (n := l.length) hr).1) (fun k hk => by
      simp [Value.ownBlock] at hk
      subst hk
      exact ⟨.inl rfl, cur, hgb⟩)
    have Fa := ((Fr.refl nob (w.setCell ⟨gl, t.toNat, none⟩ (.slice (some ⟨g, off + 2, none⟩) l.length (cap - 1)))).alloc (.cells #[.int .i64 node, .int .i64 at_] 61)).drew
    have E2 := (P.2.fr Fa (fun _ _ x => x)).more (S' := wide S w ((w.setCell ⟨gl, t.toNat, none⟩ (.slice (some ⟨g, off + 2, none⟩) l.length (cap - 1))).alloc (.cells #[.int .i64 node, .int .i64 at_] 61)).drew) (fun k hk => by rcases hk with hk | hk; exact .inl hk; exact .inr ⟨hk.1, Nat.lt_of_lt_of_le hk.2 Fa.size⟩) (fun k hk => by rcases hk with hk | hk; exact Nat.lt_of_lt_of_le (hl k hk) (P.1.trans Fa (fun _ _ x => x.elim)).size; exact hk.2)
    have PP := Lib.hid (And.intro (P.1.trans Fa (fun _ _ x => x.elim)) E2)
    clear P Fa E2 KEEP h1 h2 h3 h4 h5 h6 h7 hl hs hw hq hg hr hgap
    go_wp2
    go_ret
    exact ⟨rfl, PP.out⟩
end Go.Proofs.Ytnoioldbddjkiaa
