/- The laws' Same: of equal inner nodes, of equal nodes: yes. No condition but that they can be read. -/
import Derived.Test.YtolkpmbmgiplcaaSame
namespace Go.Proofs.Ytolkpmbmgiplcaa
open Go Go.RowKit
set_option linter.unusedVariables false
set_option linter.unusedSimpArgs false
theorem intC_get (l : List Int) (k : Nat) (x : Int) (h : l[k]? = some x) : (intC l)[k * 1 + 0]? = some (.int .i64 x) := by
  simp only [Nat.mul_one, Nat.add_zero, intC, List.getElem?_map, h, Option.map_some]
theorem intC_get' (l : List Int) (k : Nat) (x : Int) (h : l[k]? = some x) : (intC l)[k]? = some (.int .i64 x) := by
  simp only [intC, List.getElem?_map, h, Option.map_some]
set_option maxHeartbeats 1600000 in
theorem SameI_calls (k1 n1 k2 n2 : Value) (ks ns : List Int) (w : World) (h1 : RdV w k1 ks.length 1 (intC ks)) (h2 : RdV w n1 ns.length 1 (intC ns)) (h3 : RdV w k2 ks.length 1 (intC ks)) (h4 : RdV w n2 ns.length 1 (intC ns)) :
    Calls Try.prog 36 #[.agg #[k1, n1], .agg #[k2, n2]] w fun e w' => e = .returned (.bool true) ∧ Fr nob w w' := by
  have hm := h1.short
  have hm2 := h2.short
  unfold maxLen at hm hm2
  obtain ⟨a1, c1, rfl⟩ := h1.len
  obtain ⟨a2, c2, rfl⟩ := h2.len
  obtain ⟨a3, c3, rfl⟩ := h3.len
  obtain ⟨a4, c4, rfl⟩ := h4.len
  have H1 := Lib.hid h1
  have H2 := Lib.hid h2
  have H3 := Lib.hid h3
  have H4 := Lib.hid h4
  clear h1 h2 h3 h4
  have ⟨hB1, hB2, F, l1, l2⟩ : Blk ((w.alloc (.cells #[.slice a1 ks.length c1, .slice a2 ns.length c2] 34)).alloc (.cells #[.slice a3 ks.length c3, .slice a4 ns.length c4] 34)) w.heap.size 34 #[.slice a1 ks.length c1, .slice a2 ns.length c2] ∧ Blk ((w.alloc (.cells #[.slice a1 ks.length c1, .slice a2 ns.length c2] 34)).alloc (.cells #[.slice a3 ks.length c3, .slice a4 ns.length c4] 34)) (w.heap.size + 1) 34 #[.slice a3 ks.length c3, .slice a4 ns.length c4] ∧ Fr nob w ((w.alloc (.cells #[.slice a1 ks.length c1, .slice a2 ns.length c2] 34)).alloc (.cells #[.slice a3 ks.length c3, .slice a4 ns.length c4] 34)) ∧ True ∧ True :=
    ⟨(Blk.new w _ _).fr (Fr.alloc (Fr.refl _ _) _) (fun (x : nob _) => x), by have := Blk.new (w.alloc (.cells #[.slice a1 ks.length c1, .slice a2 ns.length c2] 34)) 34 #[.slice a3 ks.length c3, .slice a4 ns.length c4]; simpa using this, Fr.alloc (Fr.alloc (Fr.refl _ _) _) _, trivial, trivial⟩
  clear l1 l2
  generalize hW : (w.alloc (.cells #[.slice a1 ks.length c1, .slice a2 ns.length c2] 34)).alloc (.cells #[.slice a3 ks.length c3, .slice a4 ns.length c4] 34) = W at *
  have x10 : W.cell? ⟨w.heap.size, 0, none⟩ = some (.slice a1 ks.length c1) := hB1.cell 0
  have x11 : W.cell? ⟨w.heap.size, 1, none⟩ = some (.slice a2 ns.length c2) := hB1.cell 1
  have x20 : W.cell? ⟨w.heap.size + 1, 0, none⟩ = some (.slice a3 ks.length c3) := hB2.cell 0
  have x21 : W.cell? ⟨w.heap.size + 1, 1, none⟩ = some (.slice a4 ns.length c4) := hB2.cell 1
  have R1 := Lib.hid (H1.out.fr F (fun _ _ _ (x : nob _) => x))
  have R2 := Lib.hid (H2.out.fr F (fun _ _ _ (x : nob _) => x))
  have R3 := Lib.hid (H3.out.fr F (fun _ _ _ (x : nob _) => x))
  have R4 := Lib.hid (H4.out.fr F (fun _ _ _ (x : nob _) => x))
  have FF := Lib.hid F
  clear H1 H2 H3 H4 F hB1 hB2
  go_enter Try.func36, Try.ntmps36
  go_wp2_with fail
  go_loopw [26] (fun i wr => ∃ (k n : Nat), k ≤ ks.length ∧ i = .int .i64 k ∧ wr = W.drewN n) (fun i _ => ks.length - (intOf i).toNat)
  case atStart => exact ⟨0, 0, Nat.zero_le _, rfl, rfl⟩
  case round =>
    obtain ⟨k, n, hk, rfl, rfl⟩ := hrel
    by_cases hlt : k < ks.length
    · obtain ⟨p, hp⟩ : ∃ p, ks[k]? = some p := ⟨_, List.getElem?_eq_getElem hlt⟩
      obtain ⟨b1, rfl, hc1, hat1⟩ := R1.out.at (by omega)
      obtain ⟨b2, rfl, hc2, hat2⟩ := R3.out.at (by omega)
      have y1 := hat1 _ _ (intC_get' _ _ _ hp)
      have y2 := hat2 _ _ (intC_get' _ _ _ hp)
      clear hat1 hat2 hp
      go_wp2_with fail
      go_quiet (fail)
      go_wp2_with fail
      exact ⟨⟨k + 1, _, by omega, by go_num, rfl⟩, by simp [intOf]; omega⟩
    · go_wp2_with fail
      go_loopw [44] (fun i wr => ∃ (k n : Nat), k ≤ ns.length ∧ i = .int .i64 k ∧ wr = W.drewN n) (fun i _ => ns.length - (intOf i).toNat)
      case atStart => exact ⟨0, n, Nat.zero_le _, rfl, rfl⟩
      case round =>
        obtain ⟨k, n, hk, rfl, rfl⟩ := hrel
        by_cases hlt : k < ns.length
        · obtain ⟨p, hp⟩ : ∃ p, ns[k]? = some p := ⟨_, List.getElem?_eq_getElem hlt⟩
          obtain ⟨b1, rfl, hc1, hat1⟩ := R2.out.at (by omega)
          obtain ⟨b2, rfl, hc2, hat2⟩ := R4.out.at (by omega)
          have y1 := hat1 _ _ (intC_get' _ _ _ hp)
          have y2 := hat2 _ _ (intC_get' _ _ _ hp)
          clear hat1 hat2 hp
          go_wp2_with fail
          go_quiet (fail)
          go_wp2_with fail
          exact ⟨⟨k + 1, _, by omega, by go_num, rfl⟩, by simp [intOf]; omega⟩
        · go_wp2_with fail
          go_ret
          exact ⟨rfl, (FF.out).drewN n⟩
/-- A node's slices can be read. -/
structure NdR (w : World) (n : Nd) (vp vk vn : Value) : Prop where
  p : RdV w vp n.pairs.length 2 (pairC n.pairs)
  k : RdV w vk n.keys.length 1 (intC n.keys)
  n : RdV w vn n.ways.length 1 (intC n.ways)
theorem NdR.fr {w w' : World} {n : Nd} {vp vk vn : Value} (h : NdR w n vp vk vn) (hf : Fr nob w w') : NdR w' n vp vk vn :=
  ⟨h.p.fr hf (fun _ _ _ (x : nob _) => x), h.k.fr hf (fun _ _ _ (x : nob _) => x), h.n.fr hf (fun _ _ _ (x : nob _) => x)⟩
set_option maxHeartbeats 1600000 in
theorem SameN_calls (nd : Nd) (p1 k1 n1 p2 k2 n2 : Value) (w : World) (h1 : NdR w nd p1 k1 n1) (h2 : NdR w nd p2 k2 n2) :
    Calls Try.prog 19 #[ndV nd p1 k1 n1, ndV nd p2 k2 n2] w fun e w' => e = .returned (.bool true) ∧ Fr nob w w' := by
  have H1 := Lib.hid h1
  have H2 := Lib.hid h2
  obtain ⟨a1, c1, rfl⟩ := h1.p.len
  obtain ⟨a2, c2, rfl⟩ := h1.k.len
  obtain ⟨a3, c3, rfl⟩ := h1.n.len
  obtain ⟨a4, c4, rfl⟩ := h2.p.len
  obtain ⟨a5, c5, rfl⟩ := h2.k.len
  obtain ⟨a6, c6, rfl⟩ := h2.n.len
  clear h1 h2
  unfold ndV
  have hB1 := (Blk.new w 36 #[.bool nd.inner, .bool nd.tagged, .slice a1 nd.pairs.length c1, .slice a2 nd.keys.length c2, .slice a3 nd.ways.length c3]).fr (Fr.alloc (o := .cells #[.bool nd.inner, .bool nd.tagged, .slice a4 nd.pairs.length c4, .slice a5 nd.keys.length c5, .slice a6 nd.ways.length c6] 36) (Fr.refl nob _)) (fun (x : nob _) => x)
  have hB2 := Blk.new (w.alloc (.cells #[.bool nd.inner, .bool nd.tagged, .slice a1 nd.pairs.length c1, .slice a2 nd.keys.length c2, .slice a3 nd.ways.length c3] 36)) 36 #[.bool nd.inner, .bool nd.tagged, .slice a4 nd.pairs.length c4, .slice a5 nd.keys.length c5, .slice a6 nd.ways.length c6]
  have F : Fr nob w ((w.alloc (.cells #[.bool nd.inner, .bool nd.tagged, .slice a1 nd.pairs.length c1, .slice a2 nd.keys.length c2, .slice a3 nd.ways.length c3] 36)).alloc (.cells #[.bool nd.inner, .bool nd.tagged, .slice a4 nd.pairs.length c4, .slice a5 nd.keys.length c5, .slice a6 nd.ways.length c6] 36)) := Fr.alloc (Fr.alloc (Fr.refl _ _) _) _
  rw [World.size_alloc] at hB2
  generalize hW : (w.alloc (.cells #[.bool nd.inner, .bool nd.tagged, .slice a1 nd.pairs.length c1, .slice a2 nd.keys.length c2, .slice a3 nd.ways.length c3] 36)).alloc (.cells #[.bool nd.inner, .bool nd.tagged, .slice a4 nd.pairs.length c4, .slice a5 nd.keys.length c5, .slice a6 nd.ways.length c6] 36) = W at *
  have x10 : W.cell? ⟨w.heap.size, 0, none⟩ = some (.bool nd.inner) := hB1.cell 0
  have x11 : W.cell? ⟨w.heap.size, 1, none⟩ = some (.bool nd.tagged) := hB1.cell 1
  have x12 : W.cell? ⟨w.heap.size, 2, none⟩ = some (.slice a1 nd.pairs.length c1) := hB1.cell 2
  have x13 : W.cell? ⟨w.heap.size, 3, none⟩ = some (.slice a2 nd.keys.length c2) := hB1.cell 3
  have x14 : W.cell? ⟨w.heap.size, 4, none⟩ = some (.slice a3 nd.ways.length c3) := hB1.cell 4
  have x20 : W.cell? ⟨w.heap.size + 1, 0, none⟩ = some (.bool nd.inner) := hB2.cell 0
  have x21 : W.cell? ⟨w.heap.size + 1, 1, none⟩ = some (.bool nd.tagged) := hB2.cell 1
  have x22 : W.cell? ⟨w.heap.size + 1, 2, none⟩ = some (.slice a4 nd.pairs.length c4) := hB2.cell 2
  have x23 : W.cell? ⟨w.heap.size + 1, 3, none⟩ = some (.slice a5 nd.keys.length c5) := hB2.cell 3
  have x24 : W.cell? ⟨w.heap.size + 1, 4, none⟩ = some (.slice a6 nd.ways.length c6) := hB2.cell 4
  have R1 := H1.out.fr F
  have R2 := H2.out.fr F
  have C1 := Lib.hid (SameP_calls _ _ _ _ R1.p R2.p)
  have C2 := Lib.hid (fun n => SameI_calls _ _ _ _ _ _ (W.drewN n) ((R1.fr ((Fr.refl _ _).drewN n)).k) ((R1.fr ((Fr.refl _ _).drewN n)).n) ((R2.fr ((Fr.refl _ _).drewN n)).k) ((R2.fr ((Fr.refl _ _).drewN n)).n))
  have FF := Lib.hid F
  clear H1 H2 F R1 R2 hB1 hB2
  go_enter Try.func19, Try.ntmps19
  go_wp2_with fail
  refine C1.out.mono ?_
  rintro e w1 ⟨rfl, m, rfl⟩
  go_wp2_with fail
  refine (C2.out m).mono ?_
  rintro e w2 ⟨rfl, F2⟩
  go_wp2_with fail
  go_ret
  exact ⟨rfl, (FF.out.drewN m).trans F2 (fun _ _ x => x)⟩
end Go.Proofs.Ytolkpmbmgiplcaa
