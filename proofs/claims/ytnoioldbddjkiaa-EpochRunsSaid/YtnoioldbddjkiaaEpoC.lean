/- The epochs' Leave and Ready. No condition but that there are such epochs, and that what waits is not too much. -/
import Derived.Test.YtnoioldbddjkiaaEpoB
namespace Go.Proofs.Ytnoioldbddjkiaa
open Go Go.RowKit
set_option linter.unusedVariables false
set_option linter.unusedSimpArgs false
theorem info_gone : (Try.prog.info? 61).map (fun i => (i.zero, i.size, i.bytes)) = some (some (.agg #[.int .i64 0, .int .i64 0]), 2, 16) := by kernel_rfl
theorem Leave_nil (t node at_ : Int) (w : World) : Calls Try.prog 11 #[.pointer none, .int .i64 t, .int .i64 node, .int .i64 at_] w fun e w' => e = .returned (.tuple #[]) ∧ w' = w := by
  have hi := Lib.hid (in_nil t w)
  go_enter Try.func11, Try.ntmps11
  go_wp2_with (go_at_call 23; refine hi.out.mono ?_; rintro e w' ⟨rfl, rfl⟩)
  go_end0
  exact ⟨rfl, rfl⟩
theorem Leave_no {S : Nat → Prop} {w : World} {b : Nat} {now : Int} {said : List Int} {limbo : List (List (Int × Int))} (h : Epo w b S now said limbo) (t node at_ : Int) (ht : isT t said.length = false) :
    Calls Try.prog 11 #[.pointer (some ⟨b, 0, none⟩), .int .i64 t, .int .i64 node, .int .i64 at_] w fun e w' => e = .returned (.tuple #[]) ∧ w' = w := by
  have hi := Lib.hid (in_calls h t)
  rw [ht] at hi
  clear ht h
  go_enter Try.func11, Try.ntmps11
  go_wp2_with (go_at_call 23; refine hi.out.mono ?_; rintro e w' ⟨rfl, rfl⟩)
  go_end0
  exact ⟨rfl, rfl⟩
set_option maxHeartbeats 1600000 in
set_option maxRecDepth 100000 in
theorem Leave_yes {S : Nat → Prop} {w : World} {b : Nat} {now : Int} {said : List Int} {limbo : List (List (Int × Int))} (h : Epo w b S now said limbo) (t node at_ : Int) (ht : isT t said.length = true) (l : List (Int × Int)) (hl0 : limbo[t.toNat]? = some l) (hsz : l.length ≤ 1000000) :
    Calls Try.prog 11 #[.pointer (some ⟨b, 0, none⟩), .int .i64 t, .int .i64 node, .int .i64 at_] w fun e w' => e = .returned (.tuple #[]) ∧ Fr S w w' ∧ Epo w' b (wide S w w') now said (limbo.set t.toNat (l ++ [(node, at_)])) := by
  have hin := Lib.hid (in_calls h t)
  rw [ht] at hin
  obtain ⟨t0, t1⟩ := isT_true ht
  obtain ⟨⟨vs, vl, qs, h1, h2, h3, h4, h5, h6, h7⟩, hh, hl, hs, hw⟩ := h
  rw [hs] at t1
  obtain ⟨gl, cl, rfl⟩ := ownsRow_form h4 (by omega)
  obtain ⟨q, hq, hr, hg⟩ := h6 t.toNat l hl0
  obtain ⟨a, cap, rfl, _, _⟩ := hr.form
  obtain ⟨cq, fq, hti⟩ := ownsRow_get h4 t.toNat _ hq
  obtain ⟨_, cg, hgl⟩ := ownsRow_block h4 (g := gl) rfl
  have c2 : w.cell? ⟨b, 2, none⟩ = some (.slice (some ⟨gl, 0, none⟩) limbo.length cl) := h1.cell 2
  have lb := h1.lt
  have lgl := hgl.lt
  have hnt : (Value.slice a l.length cap).ownBlock ≠ some gl := fun hx => by
    obtain ⟨_, c, hc⟩ := hg gl hx
    exact hc.ne hgl (by decide) rfl
  have hbt : (Value.slice a l.length cap).ownBlock ≠ some b := fun hx => by
    obtain ⟨_, c, hc⟩ := hg b hx
    exact hc.ne h1 (by decide) rfl
  have B1 := h1
  obtain ⟨i0, hi, hz0, hz1, hz2⟩ := info_parts info_gone
  have hlm : l.length + 1 ≤ maxLen := by unfold maxLen; omega
  have hlb : (l.length + 1) * 16 ≤ 140737488355328 := by omega
  have KEEP := Lib.hid (And.intro h1 (And.intro h2 (And.intro h3 (And.intro h4 (And.intro h5 (And.intro h6 (And.intro h7 (And.intro hl (And.intro hs (And.intro hw (And.intro hq hg)))))))))))
  have HT := Lib.hid ht
  clear h1 h2 h3 h4 h5 h6 h7 hl hs hq hg ht hl0 hw
  go_enter Try.func11, Try.ntmps11
  go_wp2_with (go_at_call 23; refine hin.out.mono ?_; rintro e w' ⟨rfl, hw⟩; have hw := hw.symm; subst hw)
  go_region_law ((refine step_append_q _ (by rfl) _ _ _ (by rfl) 61 i0 (.agg #[.int .i64 0, .int .i64 0]) 2 16 Try.underlying59 hi hz0 hz1 hz2 rfl (by decide) (.slice a l.length cap) l.length (goneC l) (by rfl) (hr.fr ((((Fr.refl nob w)).alloc _).drew) (fun _ _ _ x => x)) ⟨w.heap.size, 0, none⟩ 1 1 [.int .i64 node, .int .i64 at_] (by rfl) (by rfl) (World.news_of_block (cs := #[.int .i64 node, .int .i64 at_]) (t := 61) (fr := (0, 0)) (by exact Blk.new' rfl _ _)) (by simp [Value.oneCell']) (by decide) hlm hlb ?_; intro g off cap' w1 q1 grow1 hat hlt; have T4 := ((hgl.alloc _).drew).grown grow1 hnt; have y0 : w1.cell? ⟨gl, t.toNat, none⟩ = some (.slice a l.length cap) := (by rw [T4.cell, ← hgl.cell]; exact cq); have y1 : w1.frozen? ⟨gl, t.toNat, none⟩ = false := T4.froz _; have y2 : w1.cell? ⟨b, 2, none⟩ = some (.slice (some ⟨gl, 0, none⟩) limbo.length cl) := (((B1.alloc _).drew).grown grow1 hbt).cell 2))
  all_goals
    obtain ⟨h1, h2, h3, h4, h5, h6, h7, hl, hs, hw, hq, hg⟩ := KEEP.out
    have Fg : Fr (fun k => (Value.slice a l.length cap).ownBlock = some k) w w1 := (((Fr.refl (fun k => (Value.slice a l.length cap).ownBlock = some k) w).alloc _).drew).grown grow1 (fun k hk => .inl hk)
    have hb' : ∀ k, (Value.slice (some ⟨g, off, none⟩) (l.length + 1) cap').ownBlock = some k → ((Value.slice a l.length cap).ownBlock = some k ∨ w.heap.size ≤ k) ∧ ∃ c, Blk w1 k 61 c := fun k hk => by
      simp [Value.ownBlock] at hk
      subst hk
      refine ⟨?_, ?_⟩
      · rcases hat with hx | hx
        · exact .inl hx
        · simp at hx; exact .inr (by omega)
      · obtain ⟨_, _, c, hx, hy, _⟩ := q1.at (by omega)
        simp only [Option.some.injEq, Addr.mk.injEq] at hx
        obtain ⟨rfl, _⟩ := hx
        exact ⟨c, hy⟩
    have P := Epo_put (l' := l ++ [(node, at_)]) h1 h2 h3 h4 h5 h6 h7 hh hl hs hw (by omega) hq Fg (by rw [List.length_append, ← goneC_append]; exact q1) hb'
    have PP := Lib.hid P
    clear P hb' Fg KEEP h1 h2 h3 h4 h5 h6 h7 hl hs hw hq hg q1 grow1
    go_wp2
    go_end0
    exact ⟨rfl, PP.out⟩
/-- May a node be freed? -/
def ripe (at_ now : Int) : Bool := decide (at_ ≤ now ∧ 3 ≤ now - at_)
theorem Ready_nil (t n : Int) (w : World) : Calls Try.prog 12 #[.pointer none, .int .i64 t, .int .i64 n] w fun e w' => e = .returned (.int .i64 0) ∧ w' = w := by
  have hi := Lib.hid (in_nil t w)
  go_enter Try.func12, Try.ntmps12
  go_wp2_with (go_at_call 23; refine hi.out.mono ?_; rintro e w' ⟨rfl, rfl⟩)
  go_ret
  exact ⟨rfl, rfl⟩
theorem Ready_none {S : Nat → Prop} {w : World} {b : Nat} {now : Int} {said : List Int} {limbo : List (List (Int × Int))} (h : Epo w b S now said limbo) (t n : Int) (ht : isT t said.length = false ∨ limbo[t.toNat]? = some []) :
    Calls Try.prog 12 #[.pointer (some ⟨b, 0, none⟩), .int .i64 t, .int .i64 n] w fun e w' => e = .returned (.int .i64 0) ∧ w' = w := by
  have hi := Lib.hid (in_calls h t)
  cases hT : isT t said.length with
  | false =>
    rw [hT] at hi
    clear ht h hT
    go_enter Try.func12, Try.ntmps12
    go_wp2_with (go_at_call 23; refine hi.out.mono ?_; rintro e w' ⟨rfl, rfl⟩)
    go_ret
    exact ⟨rfl, rfl⟩
  | true =>
    rw [hT] at hi
    obtain ⟨t0, t1⟩ := isT_true hT
    have hl0 : limbo[t.toNat]? = some [] := by
      rcases ht with hx | hx
      · rw [hT] at hx; cases hx
      · exact hx
    obtain ⟨⟨vs, vl, qs, h1, h2, h3, h4, h5, h6, h7⟩, hh, hl, hs, hw⟩ := h
    rw [hs] at t1
    obtain ⟨gl, cl, rfl⟩ := ownsRow_form h4 (by omega)
    obtain ⟨q, hq, hr, hg⟩ := h6 t.toNat [] hl0
    obtain ⟨a, cap, rfl, _, _⟩ := hr.form
    obtain ⟨cq, fq, hti⟩ := ownsRow_get h4 t.toNat _ hq
    have c2 : w.cell? ⟨b, 2, none⟩ = some (.slice (some ⟨gl, 0, none⟩) limbo.length cl) := h1.cell 2
    clear h1 h2 h3 h4 h5 h6 h7 hl hs hw ht hT hl0 hq hg hr
    simp only [List.length_nil] at cq
    go_enter Try.func12, Try.ntmps12
    go_wp2_with (go_at_call 23; refine hi.out.mono ?_; rintro e w' ⟨rfl, rfl⟩)
    go_ret
    exact ⟨rfl, rfl⟩
end Go.Proofs.Ytnoioldbddjkiaa
