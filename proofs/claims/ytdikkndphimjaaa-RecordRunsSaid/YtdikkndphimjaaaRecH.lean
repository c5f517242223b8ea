/- The laws' Copy: a record of its own. No condition but that the record can be read. -/
import Derived.Test.YtdikkndphimjaaaRecG
import Derived.Test.YtdikkndphimjaaaK1
namespace Go.Proofs.Ytdikkndphimjaaa
open Go Go.RowKit
set_option maxRecDepth 100000
set_option linter.unusedVariables false
set_option linter.unusedSimpArgs false
theorem QRow.rcNone0 (w : World) (t : TypeId) (sz : Nat) (a : Addr) : QRow w t sz (.slice (some a) 0 0) 0 [] := ⟨by simp, _, 0, rfl, Nat.le_refl _, Nat.zero_le _, .inl ⟨rfl, .inr ⟨_, rfl⟩⟩⟩
theorem Rd.rdv {w : World} {v : Value} {xs : List Int} (h : Rd w v xs) : RdV w v xs.length 1 (xs.map (Value.int .i64)) := by
  have hs := h.short
  refine ⟨by simp, by unfold maxLen; omega, ?_⟩
  rcases h with ⟨rfl, rfl⟩ | ⟨a, c, rfl, h1, h2, h3⟩
  · exact .inl ⟨rfl, rfl⟩
  · refine .inr ⟨a, c, rfl, h1, fun j hj => ?_⟩
    have hj' : j < xs.length := by omega
    rw [h3 j hj']
    simp [List.getD, List.getElem?_eq_getElem hj']
theorem ints_one (xs : List Int) : ∀ u ∈ xs.map (Value.int .i64), u.oneCell' = true := by
  intro u hu
  obtain ⟨n, _, rfl⟩ := List.mem_map.1 hu
  rfl
/-- A record of one's own, in new memory. -/
def Own (w : World) (B : Nat) (v : Value) (nodes infos : List Int) (keep way old new : Int) : Prop :=
  ∃ a2 c2 a3 c3, v = .agg #[.slice a2 nodes.length c2, .slice a3 infos.length c3, .int .i64 keep, .int .i64 way, .int .i64 old, .int .i64 new] ∧
    QRow w 29 1 (.slice a2 nodes.length c2) nodes.length (nodes.map (Value.int .i64)) ∧ QRow w 2 1 (.slice a3 infos.length c3) infos.length (infos.map (Value.int .i64)) ∧
    (∀ g, (Value.slice a2 nodes.length c2).ownBlock = some g → B ≤ g ∧ g < w.heap.size) ∧ (∀ g, (Value.slice a3 infos.length c3).ownBlock = some g → B ≤ g ∧ g < w.heap.size)
set_option maxHeartbeats 1600000 in
set_option maxRecDepth 100000 in
theorem Copy_calls (vn vi : Value) (nodes infos : List Int) (keep way old new : Int) (w : World) (hrn : Rd w vn nodes) (hri : Rd w vi infos) :
    Calls Try.prog 13 #[.agg #[vn, vi, .int .i64 keep, .int .i64 way, .int .i64 old, .int .i64 new]] w fun e w' => ∃ v, e = .returned v ∧ Own w' w.heap.size v nodes infos keep way old new ∧ Fr nob w w' := by
  have sn := hrn.short
  have si := hri.short
  obtain ⟨an, cn, rfl⟩ := hrn.len
  obtain ⟨ai, ci, rfl⟩ := hri.len
  have RN := Lib.hid hrn.rdv
  have RI := Lib.hid hri.rdv
  clear hrn hri
  obtain ⟨i0, hi, hz0, hz1, hz2⟩ := info_parts rc_info_ref
  obtain ⟨j0, hj, jz0, jz1, jz2⟩ := info_parts rc_info_i64
  have hlm : 0 + nodes.length ≤ maxLen := by unfold maxLen; omega
  have hlm' : 0 + infos.length ≤ maxLen := by unfold maxLen; omega
  have hlb : (0 + nodes.length) * 8 ≤ 140737488355328 := by omega
  have hlb' : (0 + infos.length) * 8 ≤ 140737488355328 := by omega
  go_enter Try.func13, Try.ntmps13
  go_wp2_with fail
  generalize hW1 : (w.alloc (Obj.cells #[Value.slice an nodes.length cn, Value.slice ai infos.length ci, Value.int IntKind.i64 keep, Value.int IntKind.i64 way, Value.int IntKind.i64 old, Value.int IntKind.i64 new] 31)).alloc (Obj.cells #[Value.slice none 0 0, Value.slice none 0 0, Value.int IntKind.i64 0, Value.int IntKind.i64 0, Value.int IntKind.i64 0, Value.int IntKind.i64 0] 31) = W1
  have F1 : Fr nob w W1 := by rw [← hW1]; exact ((Fr.refl _ _).alloc _).alloc _
  have B1 : Blk W1 w.heap.size 31 #[Value.slice an nodes.length cn, Value.slice ai infos.length ci, Value.int IntKind.i64 keep, Value.int IntKind.i64 way, Value.int IntKind.i64 old, Value.int IntKind.i64 new] := by rw [← hW1]; exact (Blk.new _ _ _).alloc _
  have B2 : Blk W1 (w.heap.size + 1) 31 #[Value.slice none 0 0, Value.slice none 0 0, Value.int IntKind.i64 0, Value.int IntKind.i64 0, Value.int IntKind.i64 0, Value.int IntKind.i64 0] := by rw [← hW1]; exact Blk.new' (by simp) _ _
  have hs1 : W1.heap.size = w.heap.size + 2 := by rw [← hW1]; simp
  have HW1 := Lib.hid hW1
  clear hW1
  have b0 : W1.cell? ⟨w.heap.size, 0, none⟩ = some (Value.slice an nodes.length cn) := B1.cell 0
  have b1 : W1.cell? ⟨w.heap.size, 1, none⟩ = some (Value.slice ai infos.length ci) := B1.cell 1
  have r1 := Lib.hid (RN.out.fr F1 (fun _ _ _ x => x))
  have r2 := Lib.hid (RI.out.fr F1 (fun _ _ _ x => x))
  generalize hH : w.heap.size = H at *
  have HH := Lib.hid hH
  clear hH
  have z0 : W1.frozen? ⟨H, 0, none⟩ = false := B1.froz 0
  have z1 : W1.frozen? ⟨H, 1, none⟩ = false := B1.froz 1
  go_cut [] (fun wx => ∃ a2 c2 a3 c3, Fr nob w wx ∧ Blk wx H 31 #[Value.slice a2 nodes.length c2, Value.slice a3 infos.length c3, Value.int IntKind.i64 keep, Value.int IntKind.i64 way, Value.int IntKind.i64 old, Value.int IntKind.i64 new] ∧ Blk wx (H + 1) 31 #[Value.slice none 0 0, Value.slice none 0 0, Value.int IntKind.i64 0, Value.int IntKind.i64 0, Value.int IntKind.i64 0, Value.int IntKind.i64 0] ∧
      QRow wx 29 1 (.slice a2 nodes.length c2) nodes.length (nodes.map (Value.int .i64)) ∧ QRow wx 2 1 (.slice a3 infos.length c3) infos.length (infos.map (Value.int .i64)) ∧
    (∀ g, (Value.slice a2 nodes.length c2).ownBlock = some g → H + 2 ≤ g ∧ g < wx.heap.size) ∧ (∀ g, (Value.slice a3 infos.length c3).ownBlock = some g → H + 2 ≤ g ∧ g < wx.heap.size))
  case first =>
    go_region_law (first
      | (refine step_append_any _ (by rfl) _ _ _ (by rfl) 29 i0 (.int .i64 0) 1 8 Try.underlying27 hi hz0 hz1 hz2 rfl (by decide) _ 0 [] (by rfl) (QRow.rcNone0 _ _ _ _) _ nodes.length (nodes.map (Value.int .i64)) (by rfl) (r1.out.fr (S := nob) (by repeat (first | exact Fr.refl _ _ | apply Fr.drew | apply Fr.alloc)) (fun _ _ _ x => x)) (ints_one _) hlm hlb ?_; rw [Nat.zero_add]; intro a2 c2 w2 q2 grow2 hat2; have f2 : Fr nob W1 w2 := Fr.grown (by repeat (first | exact Fr.refl _ _ | apply Fr.drew | apply Fr.alloc)) grow2 (fun k hk => .inr (by simp [Value.ownBlock] at hk; omega)); have x1 := f2.cell' b1 (fun x => x); have x2 := f2.cell' b0 (fun x => x); have x3 := f2.froz' b0 z0 (fun x => x); have x4 := f2.froz' b1 z1 (fun x => x); have l2 : H < w2.heap.size := (by have := f2.size; omega); have m2 := f2.size; have m2' := grow2.size)
      | (refine step_append_any _ (by rfl) _ _ _ (by rfl) 2 j0 (.int .i64 0) 1 8 Try.underlying28 hj jz0 jz1 jz2 rfl (by decide) _ 0 [] (by rfl) (QRow.rcNone0 _ _ _ _) _ infos.length (infos.map (Value.int .i64)) (by rfl) (r2.out.fr (S := nob) (by repeat (first | exact f2 | exact Fr.refl _ _ | apply Fr.drew | apply Fr.alloc)) (fun _ _ _ x => x)) (ints_one _) hlm' hlb' ?_; rw [Nat.zero_add]; intro a3 c3 w3 q3 grow3 hat3; have f3' : Fr nob W1 w3 := Fr.grown (by repeat (first | exact f2 | exact Fr.refl _ _ | apply Fr.drew | apply Fr.alloc)) grow3 (fun k hk => .inr (by simp [Value.ownBlock] at hk; omega)); have y1 := f3'.cell' b1 (fun x => x); have y2 := f3'.cell' b0 (fun x => x); have y3 := f3'.froz' b0 z0 (fun x => x); have y4 := f3'.froz' b1 z1 (fun x => x); have l3 : H < w3.heap.size := (by have := f3'.size; omega); have q2' := q2.fr (Fr.grown (S := fun k => _ = some k) (by repeat (first | exact Fr.refl _ _ | apply Fr.drew | apply Fr.alloc)) grow3 (fun k hk => .inl hk)) (fun g hg _ hx => by have h := hat2 g hg; simp [Value.ownBlock] at h hx m2'; omega)))
    all_goals
      go_wp2_with fail
      go_meet
      have G0 : Fr (fun k => k = H) w3 _ := ((Fr.refl (fun k => k = H) w3).setCell (p := ⟨H, 0, none⟩) (.inl rfl) (.slice a2 nodes.length c2)).setCell (p := ⟨H, 1, none⟩) (.inl rfl) (.slice a3 infos.length c3)
      have m3 := grow3.size
      try simp at m3
      try simp at m2'
      have hgs := G0.size
      have hb2 : ∀ g, (Value.slice a2 nodes.length c2).ownBlock = some g → H + 2 ≤ g ∧ g < w3.heap.size := fun g hg => by have h := hat2 g hg; simp [Value.ownBlock] at h; omega
      have hb3 : ∀ g, (Value.slice a3 infos.length c3).ownBlock = some g → H + 2 ≤ g ∧ g < w3.heap.size := fun g hg => by have h := hat3 g hg; simp [Value.ownBlock] at h; omega
      refine ⟨a2, c2, a3, c3, F1.trans ((f3'.mono (fun _ _ x => x.elim)).trans G0 (fun _ _ x => x)) (fun k hk hx => by have := HH.out; omega), ((B1.fr f3' (fun x => x)).set 0 _).set 1 _, (B2.fr f3' (fun x => x)).fr G0 (by omega), ?_, ?_, fun g hg => ⟨(hb2 g hg).1, Nat.lt_of_lt_of_le (hb2 g hg).2 hgs⟩, fun g hg => ⟨(hb3 g hg).1, Nat.lt_of_lt_of_le (hb3 g hg).2 hgs⟩⟩
      · exact q2'.fr G0 (fun g hg _ hx => by have := hb2 g hg; omega)
      · exact q3.fr G0 (fun g hg _ hx => by have := hb3 g hg; omega)
  case rest =>
    obtain ⟨a2, c2, a3, c3, F2, C1, C2, q2, q3, hb2, hb3⟩ := hcut
    have e0 := Lib.hid (And.intro q2 (And.intro q3 (And.intro hb2 hb3)))
    clear q2 q3 hb2 hb3
    have d0 : wc.cell? ⟨H, 0, none⟩ = some (Value.slice a2 nodes.length c2) := C1.cell 0
    have d1 : wc.cell? ⟨H, 1, none⟩ = some (Value.slice a3 infos.length c3) := C1.cell 1
    have d2 : wc.cell? ⟨H, 2, none⟩ = some (Value.int IntKind.i64 keep) := C1.cell 2
    have d3 : wc.cell? ⟨H, 3, none⟩ = some (Value.int IntKind.i64 way) := C1.cell 3
    have d4 : wc.cell? ⟨H, 4, none⟩ = some (Value.int IntKind.i64 old) := C1.cell 4
    have d5 : wc.cell? ⟨H, 5, none⟩ = some (Value.int IntKind.i64 new) := C1.cell 5
    have o0 : wc.cell? ⟨H + 1, 0, none⟩ = some (Value.slice none 0 0) := C2.cell 0
    have o1 : wc.cell? ⟨H + 1, 1, none⟩ = some (Value.slice none 0 0) := C2.cell 1
    have o2 : wc.cell? ⟨H + 1, 2, none⟩ = some (Value.int IntKind.i64 0) := C2.cell 2
    have o3 : wc.cell? ⟨H + 1, 3, none⟩ = some (Value.int IntKind.i64 0) := C2.cell 3
    have o4 : wc.cell? ⟨H + 1, 4, none⟩ = some (Value.int IntKind.i64 0) := C2.cell 4
    have o5 : wc.cell? ⟨H + 1, 5, none⟩ = some (Value.int IntKind.i64 0) := C2.cell 5
    have p0 : wc.frozen? ⟨H + 1, 0, none⟩ = false := C2.froz 0
    have p1 : wc.frozen? ⟨H + 1, 1, none⟩ = false := C2.froz 1
    have p2 : wc.frozen? ⟨H + 1, 2, none⟩ = false := C2.froz 2
    have p3 : wc.frozen? ⟨H + 1, 3, none⟩ = false := C2.froz 3
    have p4 : wc.frozen? ⟨H + 1, 4, none⟩ = false := C2.froz 4
    have p5 : wc.frozen? ⟨H + 1, 5, none⟩ = false := C2.froz 5
    go_wp2_with fail
    have B5 := (((((C2.set 0 (.slice a2 nodes.length c2)).set 1 (.slice a3 infos.length c3)).set 2 (.int .i64 keep)).set 3 (.int .i64 way)).set 4 (.int .i64 old)).set 5 (.int .i64 new)
    have F5 := ((((((Fr.refl (fun k => k = H + 1) wc).setCell (p := ⟨H + 1, 0, none⟩) (.inl rfl) (.slice a2 nodes.length c2)).setCell (p := ⟨H + 1, 1, none⟩) (.inl rfl) (.slice a3 infos.length c3)).setCell (p := ⟨H + 1, 2, none⟩) (.inl rfl) (.int .i64 keep)).setCell (p := ⟨H + 1, 3, none⟩) (.inl rfl) (.int .i64 way)).setCell (p := ⟨H + 1, 4, none⟩) (.inl rfl) (.int .i64 old)).setCell (p := ⟨H + 1, 5, none⟩) (.inl rfl) (.int .i64 new)
    generalize ((((((wc.setCell { block := H + 1, off := 0 } (Value.slice a2 nodes.length c2)).setCell { block := H + 1, off := 1 } (Value.slice a3 infos.length c3)).setCell { block := H + 1, off := 2 } (Value.int IntKind.i64 keep)).setCell { block := H + 1, off := 3 } (Value.int IntKind.i64 way)).setCell { block := H + 1, off := 4 } (Value.int IntKind.i64 old)).setCell { block := H + 1, off := 5 } (Value.int IntKind.i64 new)) = W5 at *
    clear d0 d1 d2 d3 d4 d5 o0 o1 o2 o3 o4 o5 p0 p1 p2 p3 p4 p5
    have p0 := B5.cell 0
    have p1 := B5.cell 1
    have p2 := B5.cell 2
    have p3 := B5.cell 3
    have p4 := B5.cell 4
    have p5 := B5.cell 5
    simp at p0 p1 p2 p3 p4 p5
    obtain ⟨q2, q3, hb2, hb3⟩ := e0.out
    have hhe := HH.out
    have hgs := F5.size
    refine bodyPost_ret (v := .agg #[.slice a2 nodes.length c2, .slice a3 infos.length c3, .int .i64 keep, .int .i64 way, .int .i64 old, .int .i64 new]) (by simp [results, Try.results13, go_sem, p0, p1, p2, p3, p4, p5]) rfl ⟨_, rfl, ⟨a2, c2, a3, c3, rfl, ?_, ?_, ?_, ?_⟩, F2.trans F5 (fun k hk hx => by omega)⟩
    · exact q2.fr F5 (fun g hg _ hx => by have := hb2 g hg; omega)
    · exact q3.fr F5 (fun g hg _ hx => by have := hb3 g hg; omega)
    · exact fun g hg => by have := hb2 g hg; omega
    · exact fun g hg => by have := hb3 g hg; omega
end Go.Proofs.Ytdikkndphimjaaa
