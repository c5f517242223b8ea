/- The record table's Make. No condition but that there is such a table, and that what is handed in can be read. -/
import Derived.Test.YtdikkndphimjaaaRecA
import Derived.Deep.RegionLaw
import Derived.Deep.RegionWith
import Derived.Deep.DeepCutAuto
namespace Go.Proofs.Ytdikkndphimjaaa
open Go Go.RowKit
set_option linter.unusedVariables false
set_option linter.unusedSimpArgs false
theorem info_ent : (Try.prog.info? 59).map (fun i => (i.zero, i.size, i.bytes)) = some (some (.pointer none), 1, 8) := by kernel_rfl
/-- Behind 'r.Nodes, r.Infos = slices.Clone(r.Nodes), slices.Clone(r.Infos)'. -/
theorem cloned_fin {W1 w2 w3 : World} {H : Nat} {x0 x1 x2 x3 x4 x5 : Value} {a2 a3 : Option Addr} {c2 c3 : Nat} {nodes infos : List Int} (B1 : Blk W1 H 31 #[x0, x1, x2, x3, x4, x5]) (f1 : Fr nob W1.drew w2) (f2 : Fr nob w2 w3)
    (row2 : Row w2 W1.heap.size 29 (.slice a2 nodes.length c2) nodes) (row3 : Row w3 w2.heap.size 2 (.slice a3 infos.length c3) infos) :
    Fr (fun k => k = H) W1 ((w3.setCell ⟨H, 0, none⟩ (.slice a2 nodes.length c2)).setCell ⟨H, 1, none⟩ (.slice a3 infos.length c3)) ∧
    Blk ((w3.setCell ⟨H, 0, none⟩ (.slice a2 nodes.length c2)).setCell ⟨H, 1, none⟩ (.slice a3 infos.length c3)) H 31 #[.slice a2 nodes.length c2, .slice a3 infos.length c3, x2, x3, x4, x5] ∧
    Row ((w3.setCell ⟨H, 0, none⟩ (.slice a2 nodes.length c2)).setCell ⟨H, 1, none⟩ (.slice a3 infos.length c3)) W1.heap.size 29 (.slice a2 nodes.length c2) nodes ∧
    Row ((w3.setCell ⟨H, 0, none⟩ (.slice a2 nodes.length c2)).setCell ⟨H, 1, none⟩ (.slice a3 infos.length c3)) W1.heap.size 2 (.slice a3 infos.length c3) infos := by
  have lH := B1.lt
  have e2 : Fr nob W1 w3 := f1.undrew.trans f2 (fun _ _ x => x)
  have B3 : Blk w3 H 31 _ := B1.fr e2 (fun x => x)
  have g0 : Fr (fun k => k = H) w3 ((w3.setCell ⟨H, 0, none⟩ (.slice a2 nodes.length c2)).setCell ⟨H, 1, none⟩ (.slice a3 infos.length c3)) := ((Fr.refl (fun k => k = H) w3).setCell (p := ⟨H, 0, none⟩) (.inl rfl) _).setCell (p := ⟨H, 1, none⟩) (.inl rfl) _
  have s2 := f1.undrew.size
  refine ⟨(e2.mono (fun _ _ x => x.elim)).trans g0 (fun k _ x => x), (B3.set 0 _).set 1 _, ?_, ?_⟩
  · exact ownsRow_fr (ownsRow_fr row2 f2 (fun _ _ x => x)) g0 (fun g hg x => by have := (ownsRow_block row2 hg).1; omega)
  · exact ownsRow_base (ownsRow_fr row3 g0 (fun g hg x => by have := (ownsRow_block row3 hg).1; omega)) s2
set_option maxHeartbeats 1000000 in
set_option maxRecDepth 100000 in
theorem Make_yes (t : Nat) (S : Nat → Prop) (es : List Ent) (most : Int) (vn vi : Value) (nodes infos : List Int) (keep way old new : Int) (w : World) (h : Tab w t S es most) (hrn : Rd w vn nodes) (hri : Rd w vi infos)
    (hlen : nodes.length = infos.length) (hk : 0 ≤ keep) (hr : (es.length : Int) < most) :
    Calls Try.prog 11 #[ptr t, .agg #[vn, vi, .int .i64 keep, .int .i64 way, .int .i64 old, .int .i64 new]] w fun e w' =>
      e = .returned (.tuple #[.int .i64 ((es.length : Int) + 1), .bool true]) ∧ Fr S w w' ∧ Tab w' t (wide S w w') (es ++ [⟨nodes, infos, keep, way, old, new, 1, false⟩]) most := by
  obtain ⟨⟨vl, bs, h1, h2, h3, h4, h5, h6⟩, hh, hl, hw, ht⟩ := h
  obtain ⟨al, cl, rfl⟩ := form_of h2
  obtain ⟨an, cn, rfl⟩ := hrn.len
  obtain ⟨ai, ci, rfl⟩ := hri.len
  have c0 : w.cell? ⟨t, 0, none⟩ = some (.slice al es.length cl) := h1.cell 0
  have c1 : w.cell? ⟨t, 1, none⟩ = some (.int .i64 most) := h1.cell 1
  have hlt : t < w.heap.size := h1.lt
  have g1 : ((nodes.length : Int) != (infos.length : Int)) = false := by rw [hlen]; simp
  have g2 : decide (keep < 0) = false := by simp; omega
  have g3 : decide (most ≤ (es.length : Int)) = false := by simp; omega
  have Hlen := Lib.hid hlen
  clear hlen
  unfold ptr
  go_enter Try.func11, Try.ntmps11
  go_wp2_with fail
  go_quiet (fail)
  go_wp2_with fail
  generalize hW1 : (w.alloc (Obj.cells #[Value.slice an nodes.length cn, Value.slice ai infos.length ci, Value.int IntKind.i64 keep, Value.int IntKind.i64 way, Value.int IntKind.i64 old, Value.int IntKind.i64 new] 31)).drewN nq = W1
  have F1 : Fr nob w W1 := by rw [← hW1]; exact ((Fr.refl _ _).alloc _).drewN _
  have B1 : Blk W1 w.heap.size 31 #[Value.slice an nodes.length cn, Value.slice ai infos.length ci, Value.int IntKind.i64 keep, Value.int IntKind.i64 way, Value.int IntKind.i64 old, Value.int IntKind.i64 new] := by rw [← hW1]; exact (Blk.new _ _ _).drewN _
  have hs1 : W1.heap.size = w.heap.size + 1 := by rw [← hW1]; simp
  have HW1 := Lib.hid hW1
  clear hW1
  have b0 : W1.cell? ⟨w.heap.size, 0, none⟩ = some (Value.slice an nodes.length cn) := B1.cell 0
  have b1 : W1.cell? ⟨w.heap.size, 1, none⟩ = some (Value.slice ai infos.length ci) := B1.cell 1
  have r1 : Rd W1 (Value.slice an nodes.length cn) nodes := hrn.fr F1 (fun _ _ _ x => x)
  have r2 : Rd W1 (Value.slice ai infos.length ci) infos := hri.fr F1 (fun _ _ _ x => x)
  have lb : w.heap.size < W1.heap.size := by omega
  generalize hH : w.heap.size = H at *
  have HH := Lib.hid hH
  clear hH
  have z0 : W1.frozen? ⟨H, 0, none⟩ = false := B1.froz 0
  have z1 : W1.frozen? ⟨H, 1, none⟩ = false := B1.froz 1
  go_cut [] (fun wx => ∃ a2 c2 a3 c3, Fr nob w wx ∧ Blk wx H 31 #[Value.slice a2 nodes.length c2, Value.slice a3 infos.length c3, Value.int IntKind.i64 keep, Value.int IntKind.i64 way, Value.int IntKind.i64 old, Value.int IntKind.i64 new] ∧
      Row wx H 29 (.slice a2 nodes.length c2) nodes ∧ Row wx H 2 (.slice a3 infos.length c3) infos)
  case first =>
    go_region_with (first
      | (go_at_call 22; refine (Clone_ref _ nodes _ (by exact r1)).mono ?_; rintro e w2 ⟨a2, c2, rfl, row2, f1⟩; have y1 := f1.undrew.cell' b1 (fun x => x))
      | (go_at_call 23; refine (Clone_i64 _ infos _ (by exact r2.fr f1.undrew (fun _ _ _ x => x))).mono ?_; rintro e w3 ⟨a3, c3, rfl, row3, f2⟩; have g3 := f1.undrew.trans f2 (fun _ _ x => x); have y2 := g3.cell' b0 (fun x => x); have y3 := g3.cell' b1 (fun x => x); have y4 := g3.froz' b0 z0 (fun x => x); have y5 := g3.froz' b1 z1 (fun x => x)))
    all_goals
      go_wp2_with fail
      go_meet
      obtain ⟨g4, g5, g6, g7⟩ := cloned_fin B1 f1 f2 row2 row3
      exact ⟨a2, c2, a3, c3, F1.trans g4 (fun k hk hx => by have := HH.out; omega), g5, ownsRow_base g6 (Nat.le_of_lt lb), ownsRow_base g7 (Nat.le_of_lt lb)⟩
  case rest =>
    obtain ⟨a2, c2, a3, c3, F2, B2, row2, row3⟩ := hcut
    have T2 := h1.fr F2 (fun x => x)
    have O2 := ownsRow_fr h2 F2 (fun _ _ x => x)
    have lt : t < wc.heap.size := T2.lt
    have lH : H < wc.heap.size := B2.lt
    have k0 : wc.cell? ⟨t, 0, none⟩ = some (.slice al es.length cl) := T2.cell 0
    have d0 : wc.cell? ⟨H, 0, none⟩ = some (Value.slice a2 nodes.length c2) := B2.cell 0
    have d1 : wc.cell? ⟨H, 1, none⟩ = some (Value.slice a3 infos.length c3) := B2.cell 1
    have d2 : wc.cell? ⟨H, 2, none⟩ = some (Value.int IntKind.i64 keep) := B2.cell 2
    have d3 : wc.cell? ⟨H, 3, none⟩ = some (Value.int IntKind.i64 way) := B2.cell 3
    have d4 : wc.cell? ⟨H, 4, none⟩ = some (Value.int IntKind.i64 old) := B2.cell 4
    have d5 : wc.cell? ⟨H, 5, none⟩ = some (Value.int IntKind.i64 new) := B2.cell 5
    obtain ⟨i0, hi, hz0, hz1, hz2⟩ := info_parts info_ent
    have hlm : es.length + 1 ≤ maxLen := by unfold maxLen; omega
    have hlb : (es.length + 1) * 8 ≤ 140737488355328 := by omega
    have hnt : (Value.slice al es.length cl).ownBlock ≠ some t := fun hx => by
      obtain ⟨_, c, hc⟩ := ownsRow_block h2 hx
      exact hc.ne h1 (by decide) rfl
    have KEEP := Lib.hid (And.intro h1 (And.intro h2 (And.intro h3 (And.intro h4 (And.intro h5 (And.intro h6 (And.intro hl (And.intro hrn.short hri.short))))))))
    clear h6 h5 h4 h3 hw hl hrn hri r1 r2 b0 b1 z0 z1 B1
    clear g1 g2 g3 c0 c1
    go_wp2_with fail
    go_region_law ((refine step_append_lies _ (by rfl) _ _ _ (by rfl) 0 59 i0 (.pointer none) 1 8 Try.underlying54 hi hz0 hz1 hz2 rfl (by decide) (.slice al es.length cl) es.length (bs.map ptr) (by rfl) (((O2.drew).alloc _).alloc _) ⟨wc.heap.size + 1, 0, none⟩ 1 1 [ptr wc.heap.size] (by rfl) (by rfl) (World.news_of_block (cs := #[ptr wc.heap.size]) (t := 59) (fr := (0, 0)) (by exact Blk.new' (by simp) _ _)) (by simp [Value.oneCell', ptr]) (by decide) hlm hlb (Nat.zero_le _) (wc.heap.size + 2) (by simp) ?_; intro gg cap w1 hown1 hgrow hat hlt; have T4 := (((T2.drew).alloc _).alloc _).grown hgrow hnt; have y0 : w1.cell? ⟨t, 0, none⟩ = some (.slice al es.length cl) := T4.cell 0; have y1 : w1.frozen? ⟨t, 0, none⟩ = false := T4.froz 0))
    all_goals
      obtain ⟨h1, h2, h3, h4, h5, h6, hl, hsn, hsi⟩ := KEEP.out
      have P := Tab_push (e := ⟨nodes, infos, keep, way, old, new, 1, false⟩) h1 h2 h3 h4 h5 h6 hh (by rw [HH.out]; exact hl) hr ht F2 (by rw [HH.out]; exact row2) (by rw [HH.out]; exact row3) hsn hsi rfl hgrow hown1 hat hlt
      have PP := Lib.hid P
      clear P h6 h5 h4 h3 hl hat hown1 hgrow KEEP
      go_wp2
      go_ret2
      exact ⟨rfl, PP.out⟩
end Go.Proofs.Ytdikkndphimjaaa
