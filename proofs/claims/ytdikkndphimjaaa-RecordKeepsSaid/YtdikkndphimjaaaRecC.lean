/- The record table's other calls: Make where nothing is made, Look, State, Set, All, SetAll, Len. No condition but that there is such a table. -/
import Derived.Test.YtdikkndphimjaaaRecB
namespace Go.Proofs.Ytdikkndphimjaaa
open Go Go.RowKit
set_option linter.unusedVariables false
set_option linter.unusedSimpArgs false
set_option maxRecDepth 100000 in
theorem Make_nil (vn vi : Value) (nodes infos : List Int) (keep way old new : Int) (w : World) (hrn : Rd w vn nodes) (hri : Rd w vi infos) :
    Calls Try.prog 11 #[.pointer none, .agg #[vn, vi, .int .i64 keep, .int .i64 way, .int .i64 old, .int .i64 new]] w fun e w' =>
      e = .returned (.tuple #[.int .i64 0, .bool false]) ∧ Fr nob w w' := by
  obtain ⟨an, cn, rfl⟩ := hrn.len
  obtain ⟨ai, ci, rfl⟩ := hri.len
  go_enter Try.func11, Try.ntmps11
  go_wp2_with fail
  go_quiet (fail)
  go_wp2_with fail
  go_ret2
  exact ⟨rfl, ((Fr.refl _ _).alloc _).drewN _⟩
set_option maxRecDepth 100000 in
theorem Make_no (t : Nat) (S : Nat → Prop) (es : List Ent) (most : Int) (vn vi : Value) (nodes infos : List Int) (keep way old new : Int) (w : World) (h : Tab w t S es most) (hrn : Rd w vn nodes) (hri : Rd w vi infos)
    (hno : nodes.length ≠ infos.length ∨ keep < 0 ∨ most ≤ (es.length : Int)) :
    Calls Try.prog 11 #[ptr t, .agg #[vn, vi, .int .i64 keep, .int .i64 way, .int .i64 old, .int .i64 new]] w fun e w' =>
      e = .returned (.tuple #[.int .i64 0, .bool false]) ∧ Fr nob w w' := by
  obtain ⟨⟨vl, bs, h1, h2, h3, h4, h5, h6⟩, hh, hl, hw, ht⟩ := h
  obtain ⟨al, cl, rfl⟩ := form_of h2
  obtain ⟨an, cn, rfl⟩ := hrn.len
  obtain ⟨ai, ci, rfl⟩ := hri.len
  have c0 : w.cell? ⟨t, 0, none⟩ = some (.slice al es.length cl) := h1.cell 0
  have c1 : w.cell? ⟨t, 1, none⟩ = some (.int .i64 most) := h1.cell 1
  have hlt : t < w.heap.size := h1.lt
  clear h1 h2 h3 h4 h5 h6 hrn hri hl hw
  unfold ptr
  by_cases q1 : nodes.length = infos.length
  · have g1 : ((nodes.length : Int) != (infos.length : Int)) = false := by rw [q1]; simp
    have Q1 := Lib.hid q1
    clear q1
    by_cases q2 : keep < 0
    · have g2 : decide (keep < 0) = true := by simp; omega
      go_enter Try.func11, Try.ntmps11
      go_wp2_with fail
      go_quiet (fail)
      go_wp2_with fail
      go_ret2
      exact ⟨rfl, ((Fr.refl _ _).alloc _).drewN _⟩
    · have g2 : decide (keep < 0) = false := by simp; omega
      have g3 : decide (most ≤ (es.length : Int)) = true := by have := Q1.out; simp; omega
      go_enter Try.func11, Try.ntmps11
      go_wp2_with fail
      go_quiet (fail)
      go_wp2_with fail
      go_ret2
      exact ⟨rfl, ((Fr.refl _ _).alloc _).drewN _⟩
  · have g1 : ((nodes.length : Int) != (infos.length : Int)) = true := by simp; omega
    go_enter Try.func11, Try.ntmps11
    go_wp2_with fail
    go_quiet (fail)
    go_wp2_with fail
    go_ret2
    exact ⟨rfl, ((Fr.refl _ _).alloc _).drewN _⟩
theorem Len_calls (t : Nat) (S : Nat → Prop) (es : List Ent) (most : Int) (w : World) (h : Tab w t S es most) : Calls Try.prog 12 #[ptr t] w fun e w' => e = .returned (.int .i64 es.length) ∧ w' = w := by
  obtain ⟨⟨vl, bs, h1, h2, h3, h4, h5, h6⟩, hh, hl, hw, ht⟩ := h
  obtain ⟨al, cl, rfl⟩ := form_of h2
  have c0 : w.cell? ⟨t, 0, none⟩ = some (.slice al es.length cl) := h1.cell 0
  clear h1 h2 h3 h4 h5 h6 hl hw
  unfold ptr
  go_enter Try.func12, Try.ntmps12
  go_wp2_with fail
  go_ret
  exact ⟨rfl, rfl⟩
theorem Len_nil (w : World) : Calls Try.prog 12 #[.pointer none] w fun e w' => e = .returned (.int .i64 0) ∧ w' = w := by
  go_enter Try.func12, Try.ntmps12
  go_wp2_with fail
  go_ret
  exact ⟨rfl, rfl⟩
/-- at, of a number that is no record's. -/
theorem at_none {t : Nat} {S : Nat → Prop} {es : List Ent} {most : Int} {w : World} (h : Tab w t S es most) (n : Int) (hn : n < 1 ∨ (es.length : Int) < n) : Calls Try.prog 24 #[ptr t, .int .i64 n] w fun e w' => e = .returned (.pointer none) ∧ w' = w := by
  obtain ⟨⟨vl, bs, h1, h2, h3, h4, h5, h6⟩, hh, hl, hw, ht⟩ := h
  obtain ⟨al, cl, rfl⟩ := form_of h2
  have c0 : w.cell? ⟨t, 0, none⟩ = some (.slice al es.length cl) := h1.cell 0
  by_cases h : n < 1
  · exact at_low t n w h
  · exact at_high t n w al es.length cl c0 (by omega) (by omega)
/-- at, of a record's number: its block; and what stays true when only that block's last two cells change. -/
theorem at_some {t : Nat} {S : Nat → Prop} {es : List Ent} {most : Int} {w : World} (h : Tab w t S es most) (i : Nat) (e0 : Ent) (he : es[i]? = some e0) :
    ∃ b, (∀ w', Fr nob w w' → Calls Try.prog 24 #[ptr t, .int .i64 ((i : Int) + 1)] w' fun e w'' => e = .returned (ptr b) ∧ w'' = w') ∧ S b ∧ EntAt w S b e0 ∧
      ∀ (o : Nat) (v : Value) (e1 : Ent), (∀ vn vi, (entC vn vi e0).setIfInBounds o v = entC vn vi e1) → e1.nodes = e0.nodes → e1.infos = e0.infos → Tab (w.setCell ⟨b, o, none⟩ v) t S (es.set i e1) most := by
  obtain ⟨⟨vl, bs, h1, h2, h3, h4, h5, h6⟩, hh, hl, hw, ht⟩ := h
  have hi : i < es.length := (List.getElem?_eq_some_iff.1 he).1
  obtain ⟨b, hb, ha⟩ := h6 i e0 he
  rcases row_cells h2 with ⟨_, h0, _⟩ | ⟨g, cap, cur, rfl, _, hg, hc, _, _, _, hj⟩
  · omega
  refine ⟨b, ?_, h5 b (List.mem_of_getElem? hb), ha, ?_⟩
  · intro w' F
    refine at_in t _ w' g es.length cap (ptr b) ((h1.fr F (fun x => x)).cell 0) (by omega) (by omega) (by omega) ?_
    have e1 : ((i : Int) + 1).toNat - 1 = i := by omega
    rw [e1, (hg.fr F (fun x => x)).cell, hj i hi, List.getElem?_map, hb]
    rfl
  · intro o v e1 hset hn hi'
    obtain ⟨vn, vi, hB, hr1, hr2, hs1, hs2, hl1, hl2⟩ := ha
    have F : Fr (fun k => k = b) w (w.setCell ⟨b, o, none⟩ v) := (Fr.refl (fun k => k = b) w).setCell (p := ⟨b, o, none⟩) (.inl rfl) v
    have ht' : b ≠ t := hB.ne h1 (by decide)
    have hgb : b ≠ g := hB.ne hg (by decide)
    refine ⟨⟨.slice (some ⟨g, 0, none⟩) es.length cap, bs, h1.fr F (fun x => ht' x.symm), ?_, h3, h4, h5, ?_⟩, hh, ?_, ?_, ht⟩
    · rw [List.length_set]
      exact ownsRow_fr h2 F (fun k hk hx => by simp [Value.ownBlock] at hk; omega)
    · intro j x hx
      by_cases hij : i = j
      · subst hij
        rw [List.getElem?_set_self hi] at hx
        simp only [Option.some.injEq] at hx
        subst hx
        refine ⟨b, hb, vn, vi, ?_, ?_, ?_, hs1, hs2, by rw [hn]; exact hl1, by rw [hi']; exact hl2⟩
        · rw [← hset vn vi]; exact hB.set o v
        · rw [hn]; exact ownsRow_fr hr1 F (fun k hk hx => by obtain ⟨_, c, hc⟩ := ownsRow_block hr1 hk; exact hc.ne hB (by decide) hx)
        · rw [hi']; exact ownsRow_fr hr2 F (fun k hk hx => by obtain ⟨_, c, hc⟩ := ownsRow_block hr2 hk; exact hc.ne hB (by decide) hx)
      · rw [List.getElem?_set_ne hij] at hx
        obtain ⟨b', hb', ha'⟩ := h6 j x hx
        refine ⟨b', hb', ha'.fr F (fun hx => ?_) ?_ (fun _ x => x)⟩
        · subst hx
          have hli : i < bs.length := (List.getElem?_eq_some_iff.1 hb).1
          exact hij ((List.getElem?_inj hli h4).1 (hb.trans hb'.symm))
        · rintro k T c _ hk hT rfl
          exact hk.ne hB (by rcases hT with rfl | rfl <;> decide) rfl
    · intro k hk; simpa [World.setCell] using hl k hk
    · rw [List.length_set]; exact hw
end Go.Proofs.Ytdikkndphimjaaa
