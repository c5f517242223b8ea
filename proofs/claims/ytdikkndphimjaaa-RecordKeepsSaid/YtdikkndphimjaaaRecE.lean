/- The record table's Look. No condition but that there is such a table. -/
import Derived.Test.YtdikkndphimjaaaRecD
namespace Go.Proofs.Ytdikkndphimjaaa
open Go Go.RowKit
set_option linter.unusedVariables false
set_option linter.unusedSimpArgs false
/-- A record as it is told: what its two rows and its four numbers are. -/
def Told (w : World) (B : Nat) (v : Value) (nodes infos : List Int) (keep way old new : Int) : Prop :=
  ∃ a2 c2 a3 c3, v = .agg #[.slice a2 nodes.length c2, .slice a3 infos.length c3, .int .i64 keep, .int .i64 way, .int .i64 old, .int .i64 new] ∧
    Row w B 29 (.slice a2 nodes.length c2) nodes ∧ Row w B 2 (.slice a3 infos.length c3) infos
def zeroEnt : Ent := ⟨[], [], 0, 0, 0, 0, 0, false⟩
theorem Look_none {t : Nat} {S : Nat → Prop} {es : List Ent} {most : Int} {w : World} (h : Tab w t S es most) (n : Int) (he : entOf es n = none) :
    Calls Try.prog 14 #[ptr t, .int .i64 n] w fun e w' => ∃ v, e = .returned v ∧ Told w' w.heap.size v [] [] 0 0 0 0 ∧ Fr nob w w' := by
  have hlt : t < w.heap.size := by obtain ⟨⟨vl, bs, h1, _⟩, _⟩ := h; exact h1.lt
  have ha := Lib.hid (fun (o : Obj) => at_none (h.fr ((Fr.refl nob w).alloc o) (fun _ _ x => x)) n (entOf_none he))
  clear he h
  unfold ptr at *
  go_enter Try.func14, Try.ntmps14
  go_wp2_with (go_at_call 24; refine (ha.out _).mono ?_; rintro e w' ⟨rfl, rfl⟩)
  refine bodyPost_ret (v := .agg #[.slice none 0 0, .slice none 0 0, .int .i64 0, .int .i64 0, .int .i64 0, .int .i64 0]) (by simp [results, Try.results14, go_sem]) rfl ⟨_, rfl, ⟨none, 0, none, 0, rfl, ⟨rfl, .inl ⟨rfl, rfl⟩⟩, ⟨rfl, .inl ⟨rfl, rfl⟩⟩⟩, (Fr.refl _ _).alloc _⟩
set_option maxHeartbeats 1600000 in
set_option maxRecDepth 100000 in
theorem Look_some {t : Nat} {S : Nat → Prop} {es : List Ent} {most : Int} {w : World} (h : Tab w t S es most) (n : Int) (e0 : Ent) (he : entOf es n = some e0) :
    Calls Try.prog 14 #[ptr t, .int .i64 n] w fun e w' => ∃ v, e = .returned v ∧ Told w' w.heap.size v e0.nodes e0.infos e0.keep e0.way e0.old e0.new ∧ Fr nob w w' := by
  obtain ⟨i, rfl, hi⟩ := entOf_some he
  have hlt : t < w.heap.size := by obtain ⟨⟨vl, bs, h1, _⟩, _⟩ := h; exact h1.lt
  obtain ⟨b, ha, hS, ⟨vn, vi, hB, hr1, hr2, _, _, hl1, hl2⟩, _⟩ := at_some h i e0 hi
  obtain ⟨an, cn, rfl⟩ := form_of hr1
  obtain ⟨ai, ci, rfl⟩ := form_of hr2
  have Q1 := Lib.hid (fun W1 (F1 : Fr nob w W1) => (hr1.rd hl1).fr F1 (fun _ _ _ x => x))
  have Q2 := Lib.hid (fun W1 (F1 : Fr nob w W1) => (hr2.rd hl2).fr F1 (fun _ _ _ x => x))
  obtain ⟨nodes, infos, keep, way, old, new, st, all⟩ := e0
  dsimp only at *
  have d0 := hB.cell 0
  have d1 := hB.cell 1
  have d2 := hB.cell 2
  have d3 := hB.cell 3
  have d4 := hB.cell 4
  have d5 := hB.cell 5
  simp [entC] at d0 d1 d2 d3 d4 d5
  have lb := hB.lt
  have ha := Lib.hid ha
  clear he h hi hB hr1 hr2
  unfold ptr at *
  go_enter Try.func14, Try.ntmps14
  go_wp2_with (go_at_call 24; refine (ha.out _ ((Fr.refl nob w).alloc _)).mono ?_; rintro e w' ⟨rfl, rfl⟩)
  refine wp_seal (fun W1 => Fr nob w W1 ∧ Blk W1 w.heap.size 31 #[.slice none 0 0, .slice none 0 0, .int .i64 0, .int .i64 0, .int .i64 0, .int .i64 0] ∧ Blk W1 (w.heap.size + 1) 31 #[.slice an nodes.length cn, .slice ai infos.length ci, .int .i64 keep, .int .i64 way, .int .i64 old, .int .i64 new])
    ⟨((Fr.refl _ _).alloc _).alloc _, (Blk.new _ _ _).alloc _, Blk.new' (by simp) _ _⟩ ?_
  rintro W1 ⟨F1, B0, B1⟩
  replace q1 : Rd W1 (Value.slice an nodes.length cn) nodes := Q1.out W1 F1
  replace q2 : Rd W1 (Value.slice ai infos.length ci) infos := Q2.out W1 F1
  have b0 : W1.cell? ⟨w.heap.size + 1, 0, none⟩ = some (Value.slice an nodes.length cn) := B1.cell 0
  have b1 : W1.cell? ⟨w.heap.size + 1, 1, none⟩ = some (Value.slice ai infos.length ci) := B1.cell 1
  have z0 : W1.frozen? ⟨w.heap.size + 1, 0, none⟩ = false := B1.froz 0
  have z1 : W1.frozen? ⟨w.heap.size + 1, 1, none⟩ = false := B1.froz 1
  have lb1 := B1.lt
  go_cut [] (fun wx => ∃ a2 c2 a3 c3, Fr nob w wx ∧ Blk wx w.heap.size 31 #[.slice none 0 0, .slice none 0 0, .int .i64 0, .int .i64 0, .int .i64 0, .int .i64 0] ∧ Blk wx (w.heap.size + 1) 31 #[Value.slice a2 nodes.length c2, Value.slice a3 infos.length c3, Value.int IntKind.i64 keep, Value.int IntKind.i64 way, Value.int IntKind.i64 old, Value.int IntKind.i64 new] ∧
      Row wx (w.heap.size + 2) 29 (.slice a2 nodes.length c2) nodes ∧ Row wx (w.heap.size + 2) 2 (.slice a3 infos.length c3) infos)
  case first =>
    go_region_with (first
      | (go_at_call 22; refine (Clone_ref _ nodes _ (by exact q1)).mono ?_; rintro e w2 ⟨a2, c2, rfl, row2, f1⟩; have y1 := f1.undrew.cell' b1 (fun x => x))
      | (go_at_call 23; refine (Clone_i64 _ infos _ (by exact q2.fr f1.undrew (fun _ _ _ x => x))).mono ?_; rintro e w3 ⟨a3, c3, rfl, row3, f2⟩; have g3 := f1.undrew.trans f2 (fun _ _ x => x); have y2 := g3.cell' b0 (fun x => x); have y3 := g3.cell' b1 (fun x => x); have y4 := g3.froz' b0 z0 (fun x => x); have y5 := g3.froz' b1 z1 (fun x => x)))
    all_goals
      go_wp2_with fail
      go_meet
      obtain ⟨g4, g5, g6, g7⟩ := cloned_fin B1 f1 f2 row2 row3
      exact ⟨a2, c2, a3, c3, F1.trans g4 (fun k hk hx => by omega), B0.fr g4 (by omega), g5, ownsRow_base g6 (by omega), ownsRow_base g7 (by omega)⟩
  case rest =>
    obtain ⟨a2, c2, a3, c3, F2, B2, B3, row2, row3⟩ := hcut
    have k0 : wc.cell? ⟨w.heap.size + 1, 0, none⟩ = some (Value.slice a2 nodes.length c2) := B3.cell 0
    have k1 : wc.cell? ⟨w.heap.size + 1, 1, none⟩ = some (Value.slice a3 infos.length c3) := B3.cell 1
    have k2 : wc.cell? ⟨w.heap.size + 1, 2, none⟩ = some (.int .i64 keep) := B3.cell 2
    have k3 : wc.cell? ⟨w.heap.size + 1, 3, none⟩ = some (.int .i64 way) := B3.cell 3
    have k4 : wc.cell? ⟨w.heap.size + 1, 4, none⟩ = some (.int .i64 old) := B3.cell 4
    have k5 : wc.cell? ⟨w.heap.size + 1, 5, none⟩ = some (.int .i64 new) := B3.cell 5
    have m0 : wc.cell? ⟨w.heap.size, 0, none⟩ = some (.slice none 0 0) := B2.cell 0
    have m1 : wc.cell? ⟨w.heap.size, 1, none⟩ = some (.slice none 0 0) := B2.cell 1
    have m2 : wc.cell? ⟨w.heap.size, 2, none⟩ = some (.int .i64 0) := B2.cell 2
    have m3 : wc.cell? ⟨w.heap.size, 3, none⟩ = some (.int .i64 0) := B2.cell 3
    have m4 : wc.cell? ⟨w.heap.size, 4, none⟩ = some (.int .i64 0) := B2.cell 4
    have m5 : wc.cell? ⟨w.heap.size, 5, none⟩ = some (.int .i64 0) := B2.cell 5
    have n0 : wc.frozen? ⟨w.heap.size, 0, none⟩ = false := B2.froz 0
    have n1 : wc.frozen? ⟨w.heap.size, 1, none⟩ = false := B2.froz 1
    have n2 : wc.frozen? ⟨w.heap.size, 2, none⟩ = false := B2.froz 2
    have n3 : wc.frozen? ⟨w.heap.size, 3, none⟩ = false := B2.froz 3
    have n4 : wc.frozen? ⟨w.heap.size, 4, none⟩ = false := B2.froz 4
    have n5 : wc.frozen? ⟨w.heap.size, 5, none⟩ = false := B2.froz 5
    clear d0 d1 d2 d3 d4 d5 q1 q2 b0 b1 z0 z1 ha Q1 Q2 B1 lb lb1
    go_wp2
    have B5 := (((((B2.set 0 (.slice a2 nodes.length c2)).set 1 (.slice a3 infos.length c3)).set 2 (.int .i64 keep)).set 3 (.int .i64 way)).set 4 (.int .i64 old)).set 5 (.int .i64 new)
    have F5 := ((((((Fr.refl (fun k => k = w.heap.size) wc).setCell (p := ⟨w.heap.size, 0, none⟩) (.inl rfl) (.slice a2 nodes.length c2)).setCell (p := ⟨w.heap.size, 1, none⟩) (.inl rfl) (.slice a3 infos.length c3)).setCell (p := ⟨w.heap.size, 2, none⟩) (.inl rfl) (.int .i64 keep)).setCell (p := ⟨w.heap.size, 3, none⟩) (.inl rfl) (.int .i64 way)).setCell (p := ⟨w.heap.size, 4, none⟩) (.inl rfl) (.int .i64 old)).setCell (p := ⟨w.heap.size, 5, none⟩) (.inl rfl) (.int .i64 new)
    generalize ((((((wc.setCell { block := w.heap.size, off := 0 } (Value.slice a2 nodes.length c2)).setCell { block := w.heap.size, off := 1 } (Value.slice a3 infos.length c3)).setCell { block := w.heap.size, off := 2 } (Value.int IntKind.i64 keep)).setCell { block := w.heap.size, off := 3 } (Value.int IntKind.i64 way)).setCell { block := w.heap.size, off := 4 } (Value.int IntKind.i64 old)).setCell { block := w.heap.size, off := 5 } (Value.int IntKind.i64 new)) = W5 at *
    have p0 := B5.cell 0
    have p1 := B5.cell 1
    have p2 := B5.cell 2
    have p3 := B5.cell 3
    have p4 := B5.cell 4
    have p5 := B5.cell 5
    simp at p0 p1 p2 p3 p4 p5
    refine bodyPost_ret (v := .agg #[.slice a2 nodes.length c2, .slice a3 infos.length c3, .int .i64 keep, .int .i64 way, .int .i64 old, .int .i64 new]) (by simp [results, Try.results14, go_sem, p0, p1, p2, p3, p4, p5]) rfl ⟨_, rfl, ⟨a2, c2, a3, c3, rfl, ?_, ?_⟩, F2.trans F5 (fun k hk hx => by omega)⟩
    · exact ownsRow_base (ownsRow_fr row2 F5 (fun g hg hx => by have := (ownsRow_block row2 hg).1; omega)) (by omega)
    · exact ownsRow_base (ownsRow_fr row3 F5 (fun g hg hx => by have := (ownsRow_block row3 hg).1; omega)) (by omega)
theorem Look_nil (n : Int) (w : World) :
    Calls Try.prog 14 #[.pointer none, .int .i64 n] w fun e w' => ∃ v, e = .returned v ∧ Told w' w.heap.size v [] [] 0 0 0 0 ∧ Fr nob w w' := by
  have ha := Lib.hid (fun (o : Obj) => at_nil n (w.alloc o))
  go_enter Try.func14, Try.ntmps14
  go_wp2_with (go_at_call 24; refine (ha.out _).mono ?_; rintro e w' ⟨rfl, rfl⟩)
  refine bodyPost_ret (v := .agg #[.slice none 0 0, .slice none 0 0, .int .i64 0, .int .i64 0, .int .i64 0, .int .i64 0]) (by simp [results, Try.results14, go_sem]) rfl ⟨_, rfl, ⟨none, 0, none, 0, rfl, ⟨rfl, .inl ⟨rfl, rfl⟩⟩, ⟨rfl, .inl ⟨rfl, rfl⟩⟩⟩, (Fr.refl _ _).alloc _⟩
/-- What an entry of number n is, or the zero one. -/
theorem Look_calls {t : Nat} {S : Nat → Prop} {es : List Ent} {most : Int} {w : World} (h : Tab w t S es most) (n : Int) (e0 : Ent) (he : (entOf es n).getD zeroEnt = e0) :
    Calls Try.prog 14 #[ptr t, .int .i64 n] w fun e w' => ∃ v, e = .returned v ∧ Told w' w.heap.size v e0.nodes e0.infos e0.keep e0.way e0.old e0.new ∧ Fr nob w w' := by
  cases hx : entOf es n with
  | none => rw [hx] at he; subst he; exact Look_none h n hx
  | some e => rw [hx] at he; simp at he; subst he; exact Look_some h n e hx
end Go.Proofs.Ytdikkndphimjaaa
