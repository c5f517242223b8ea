/- The arena's Look: the node, as one's own. No condition but the arena's bounds, and that a node has not too many entries. -/
import Derived.Test.YtolkpmbmgiplcaaAreE
import Derived.Test.YtolkpmbmgiplcaaOrd
namespace Go.Proofs.Ytolkpmbmgiplcaa
open Go Go.RowKit
set_option linter.unusedVariables false
set_option linter.unusedSimpArgs false
theorem pairC_one (l : List (Int × Int)) : ∀ u ∈ pairC l, u.oneCell' = true := by
  intro u hu
  simp only [pairC, List.mem_flatMap] at hu
  obtain ⟨p, _, hp⟩ := hu
  simp at hp
  rcases hp with rfl | rfl <;> rfl
theorem intC_one (l : List Int) : ∀ u ∈ intC l, u.oneCell' = true := by
  intro u hu
  obtain ⟨x, _, rfl⟩ := List.mem_map.1 hu
  rfl
/-- A node has not too many entries. -/
def Nd.few (n : Nd) : Prop := n.pairs.length ≤ 100000 ∧ n.keys.length ≤ 100000 ∧ n.ways.length ≤ 100000
/-- A node's slices, that one owns. -/
def ndL (n : Nd) (vp vk vn : Value) : List Piece := [rowP 47 2 vp n.pairs.length (pairC n.pairs), rowP 2 1 vk n.keys.length (intC n.keys), rowP 27 1 vn n.ways.length (intC n.ways)]
/-- A node as a value. -/
def ndV (n : Nd) (vp vk vn : Value) : Value := .agg #[.bool n.inner, .bool n.tagged, vp, vk, vn]
def lookAr (r : Int) (ar : Ar) : Nd × Ar := match arAt ar r with | some p => ((ar.at p).nd, ar) | none => (noNd, ar.fault)
section
variable {w0 w : World} {l : List Piece} {a : Nat} {ar : Ar}
theorem Heap.pushNil {w0 w : World} {l : List Piece} (h : Heap w0 w l) (t : TypeId) (sz : Nat) : Heap w0 w (l ++ [rowP t sz nilS 0 []]) := h.push (Fr.refl _ _) (rowP_nil w t sz) (fun _ x => x.elim)
set_option maxHeartbeats 2000000 in
theorem Look_h (h : Heap w0 w l) (i : Nat) (hi : l[i]? = some (areP a ar)) (ok : OkAr ar) (hfew : ∀ s ∈ ar.slots, s.nd.few) (r : Int) :
    Calls Try.prog 18 #[.pointer (some ⟨a, 0, none⟩), .int .i64 r] w fun e w' => ∃ vp vk vn, e = .returned (ndV (lookAr r ar).1 vp vk vn) ∧ Heap w0 w' (l.set i (areP a (lookAr r ar).2) ++ ndL (lookAr r ar).1 vp vk vn) := by
  unfold lookAr
  cases hr : arAt ar r with
  | none =>
    have hil : i < l.length := (List.getElem?_eq_some_iff.1 hi).1
    have h1 := h.alloc 36 #[.bool false, .bool false, nilS, nilS, nilS]
    generalize hR : w.heap.size = R at *
    have C := Lib.hid (at_none_h h1 i (get_left hi) ok r hr)
    clear hr h hi ok hfew h1
    unfold nilS at C
    go_enter Try.func18, Try.ntmps18
    go_wp2_with fail
    clear hR
    refine C.out.mono ?_
    rintro e w' ⟨rfl, H'⟩
    rw [List.set_append_left _ _ hil] at H'
    have hb := H'.blk (l.set i (areP a ar.fault)).length (get_last _ _)
    have k0 : w'.cell? ⟨R, 0, none⟩ = some (.bool false) := hb.cell 0
    have k1 : w'.cell? ⟨R, 1, none⟩ = some (.bool false) := hb.cell 1
    have k2 : w'.cell? ⟨R, 2, none⟩ = some (.slice none 0 0) := hb.cell 2
    have k3 : w'.cell? ⟨R, 3, none⟩ = some (.slice none 0 0) := hb.cell 3
    have k4 : w'.cell? ⟨R, 4, none⟩ = some (.slice none 0 0) := hb.cell 4
    have z0 := hb.froz 0
    have z1 := hb.froz 1
    have z2 := hb.froz 2
    have z3 := hb.froz 3
    have z4 := hb.froz 4
    have lR := hb.lt
    have HH := Lib.hid H'
    clear H' hb
    go_wp2_with fail
    have H5 := Heap.set5 (m := []) (by simpa using HH.out) _ (get_last _ _) (.bool false) (.bool false) (.slice none 0 0) (.slice none 0 0) (.slice none 0 0)
    rw [List.append_nil, List.set_append_right _ _ (Nat.le_refl _)] at H5
    generalize (((((w'.setCell ⟨R, 0, none⟩ (.bool false)).setCell ⟨R, 1, none⟩ (.bool false)).setCell ⟨R, 2, none⟩ (.slice none 0 0)).setCell ⟨R, 3, none⟩ (.slice none 0 0)).setCell ⟨R, 4, none⟩ (.slice none 0 0)) = W5 at H5 ⊢
    rw [Nat.sub_self, List.set_cons_zero] at H5
    have hb5 := H5.blk _ (get_last _ _)
    have e0 : W5.cell? ⟨R, 0, none⟩ = some (.bool false) := hb5.cell 0
    have e1 : W5.cell? ⟨R, 1, none⟩ = some (.bool false) := hb5.cell 1
    have e2 : W5.cell? ⟨R, 2, none⟩ = some (.slice none 0 0) := hb5.cell 2
    have e3 : W5.cell? ⟨R, 3, none⟩ = some (.slice none 0 0) := hb5.cell 3
    have e4 : W5.cell? ⟨R, 4, none⟩ = some (.slice none 0 0) := hb5.cell 4
    refine bodyPost_ret (v := ndV noNd nilS nilS nilS) (by simp [results, Try.results18, go_sem, ndV, noNd, nilS, e0, e1, e2, e3, e4]) rfl ⟨nilS, nilS, nilS, rfl, ?_⟩
    have H6 := (((H5.first.pushNil 47 2).pushNil 2 1).pushNil 27 1)
    simpa [ndL, noNd, pairC, intC] using H6
  | some p =>
    dsimp only
    have hs := areP_set hi
    rw [hs]
    have hil : i < l.length := (List.getElem?_eq_some_iff.1 hi).1
    obtain ⟨B1, B2, B3⟩ := hfew _ (List.mem_of_getElem? (at_get hr))
    have h1 := h.alloc 36 #[.bool false, .bool false, nilS, nilS, nilS]
    obtain ⟨g, off, cap, cf, af, v, hb, hcap, hc, hz, ⟨rp, rk, rn, _⟩, _, _⟩ := slot_h h1 i (get_left hi) (at_get hr)
    have C := Lib.hid (at_some_h h1 i (get_left hi) ok r hr hb hcap hc)
    have c0 := hc 0 (.bool (ar.at p).nd.inner) rfl
    have c1 := hc 1 (.bool (ar.at p).nd.tagged) rfl
    have c2 := hc 2 v.p rfl
    have c3 := hc 3 v.k rfl
    have c4 := hc 4 v.n rfl
    rw [Nat.add_zero] at c0
    clear hc
    generalize (ar.at p).nd = nd at *
    generalize hR : w.heap.size = R at *
    unfold nilS at *
    have HL1 := Lib.hid h1
    have RR := Lib.hid (And.intro rp (And.intro rk rn))
    clear hr h hi ok hfew h1 hb hcap hz hs rp rk rn
    go_enter Try.func18, Try.ntmps18
    go_wp2_with fail
    refine C.out.mono ?_
    rintro e w' ⟨rfl, hw⟩
    clear hR C
    generalize w.alloc (Obj.cells #[Value.bool false, Value.bool false, Value.slice none 0 0, Value.slice none 0 0, Value.slice none 0 0] 36) = W1 at *
    have hw := hw.symm
    subst hw
    generalize hvp : v.p = vp at *
    generalize hvk : v.k = vk at *
    generalize hvn : v.n = vn at *
    clear hvp hvk hvn
    obtain ⟨ap, cp, rfl⟩ := RR.out.1.len
    obtain ⟨ak, ck, rfl⟩ := RR.out.2.1.len
    obtain ⟨an, cn, rfl⟩ := RR.out.2.2.len
    go_upto_region 5 with fail
    have H2 := HL1.out.alloc 36 #[.bool nd.inner, .bool nd.tagged, .slice ap nd.pairs.length cp, .slice ak nd.keys.length ck, .slice an nd.ways.length cn]
    have F2 : Fr nob W1 (W1.alloc (.cells #[.bool nd.inner, .bool nd.tagged, .slice ap nd.pairs.length cp, .slice ak nd.keys.length ck, .slice an nd.ways.length cn] 36)) := Fr.alloc (Fr.refl _ _) _
    generalize hN : W1.heap.size = N at *
    clear hN
    generalize W1.alloc (.cells #[.bool nd.inner, .bool nd.tagged, .slice ap nd.pairs.length cp, .slice ak nd.keys.length ck, .slice an nd.ways.length cn] 36) = WW at *
    have RD : Hid (∀ x, Fr nob WW x → RdV x (.slice ap nd.pairs.length cp) nd.pairs.length 2 (pairC nd.pairs) ∧ RdV x (.slice ak nd.keys.length ck) nd.keys.length 1 (intC nd.keys) ∧ RdV x (.slice an nd.ways.length cn) nd.ways.length 1 (intC nd.ways)) := Lib.hid fun x hx => by
      obtain ⟨r1, r2, r3⟩ := RR.out
      have F := F2.trans hx (fun _ _ x => x)
      exact ⟨r1.fr F (fun _ _ _ x => x), r2.fr F (fun _ _ _ x => x), r3.fr F (fun _ _ _ x => x)⟩
    have O1 := pairC_one nd.pairs
    have O2 := intC_one nd.keys
    have O3 := intC_one nd.ways
    have E1 : nd.pairs.length ≤ 1000000 := by omega
    have E2 : nd.keys.length ≤ 1000000 := by omega
    have E3 : nd.ways.length ≤ 1000000 := by omega
    obtain ⟨jn, hjn⟩ : ∃ jn, jn = (l ++ [blkP R 36 #[.bool false, .bool false, .slice none 0 0, .slice none 0 0, .slice none 0 0]]).length := ⟨_, rfl⟩
    have HJ : Hid (((l ++ [blkP R 36 #[.bool false, .bool false, .slice none 0 0, .slice none 0 0, .slice none 0 0]]) ++ [blkP N 36 #[.bool nd.inner, .bool nd.tagged, .slice ap nd.pairs.length cp, .slice ak nd.keys.length ck, .slice an nd.ways.length cn]])[jn]? = some (blkP N 36 #[.bool nd.inner, .bool nd.tagged, .slice ap nd.pairs.length cp, .slice ak nd.keys.length ck, .slice an nd.ways.length cn])) := Lib.hid (by rw [hjn]; exact get_last _ _)
    have HJN := Lib.hid hjn
    clear hjn
    have NB := H2.blk jn HJ.out
    have u3 : WW.cell? ⟨N, 3, none⟩ = some (.slice ak nd.keys.length ck) := NB.cell 3
    have u4 : WW.cell? ⟨N, 4, none⟩ = some (.slice an nd.ways.length cn) := NB.cell 4
    have u2 : WW.cell? ⟨N, 2, none⟩ = some (.slice ap nd.pairs.length cp) := NB.cell 2
    have HL := Lib.hid H2
    have HO := Lib.hid (And.intro O1 (And.intro O2 O3))
    clear H2 F2 NB O1 O2 O3 c0 c1 c2 c3 c4
    go_cut [] (fun wx => ∃ a1 c1 a2 c2 a3 c3, Heap w0 wx ((l ++ [blkP R 36 #[.bool false, .bool false, .slice none 0 0, .slice none 0 0, .slice none 0 0]]) ++ [blkP N 36 #[.bool nd.inner, .bool nd.tagged, .slice a1 nd.pairs.length c1, .slice a2 nd.keys.length c2, .slice a3 nd.ways.length c3]] ++ ndL nd (.slice a1 nd.pairs.length c1) (.slice a2 nd.keys.length c2) (.slice a3 nd.ways.length c3)))
    case first =>
      refine wp_region_noPanic ?_
      refine AnyK.start (ks := [15]) (S := fun w' => w'.cell? ⟨N, 3, none⟩ = some (.slice ak nd.keys.length ck) ∧ w'.cell? ⟨N, 4, none⟩ = some (.slice an nd.ways.length cn)) (by kernel_rfl) (by go_keep) (fun hHeld => ?_)
      refine AnyK.take (i := 0) (v := ?_) rfl (by kernel_rfl) (by kernel_rfl) (by kernel_rfl) (by kernel_rfl) (fun _ _ _ h => h) (Or.inl ⟨by rfl, ?_⟩) (by assumption) ?_
      rotate_left
      focus
        intro w9 hSw
        try dsimp only at hSw
        go_simp
        try with_reducible rfl
      try simp only [Act.put, List.setIfInBounds_toArray, List.set_cons_zero, List.set_cons_succ]
      refine AnyK.take (i := 3) (v := ?_) rfl (by kernel_rfl) (by kernel_rfl) (by kernel_rfl) (by kernel_rfl) (fun _ _ _ h => h) (Or.inl ⟨by rfl, ?_⟩) (by assumption) ?_
      rotate_left
      focus
        intro w9 hSw
        try dsimp only at hSw
        go_simp
        try with_reducible rfl
      try simp only [Act.put, List.setIfInBounds_toArray, List.set_cons_zero, List.set_cons_succ]
      refine AnyK.take (i := 4) (v := ?_) rfl (by kernel_rfl) (by kernel_rfl) (by kernel_rfl) (by kernel_rfl) (fun _ _ _ h => h) (Or.inl ⟨by rfl, ?_⟩) (by assumption) ?_
      rotate_left
      focus
        intro w9 hSw
        try dsimp only at hSw
        go_simp
        try with_reducible rfl
      try simp only [Act.put, List.setIfInBounds_toArray, List.set_cons_zero, List.set_cons_succ]
      refine AnyK.take (i := 5) (v := ?_) rfl (by kernel_rfl) (by kernel_rfl) (by kernel_rfl) (by kernel_rfl) (fun _ _ _ h => h) (Or.inl ⟨by rfl, ?_⟩) (by assumption) ?_
      rotate_left
      focus
        intro w9 hSw
        try dsimp only at hSw
        go_simp
        try with_reducible rfl
      try simp only [Act.put, List.setIfInBounds_toArray, List.set_cons_zero, List.set_cons_succ]
      refine AnyK.take (i := 7) (v := ?_) rfl (by kernel_rfl) (by kernel_rfl) (by kernel_rfl) (by kernel_rfl) (fun _ _ _ h => h) (Or.inl ⟨by rfl, ?_⟩) (by assumption) ?_
      rotate_left
      focus
        intro w9 hSw
        try dsimp only at hSw
        go_simp
        try with_reducible rfl
      try simp only [Act.put, List.setIfInBounds_toArray, List.set_cons_zero, List.set_cons_succ]
      refine AnyK.take (i := 8) (v := ?_) rfl (by kernel_rfl) (by kernel_rfl) (by kernel_rfl) (by kernel_rfl) (fun _ _ _ h => h) (Or.inl ⟨by rfl, ?_⟩) (by assumption) ?_
      rotate_left
      focus
        intro w9 hSw
        try dsimp only at hSw
        go_simp
        try with_reducible rfl
      try simp only [Act.put, List.setIfInBounds_toArray, List.set_cons_zero, List.set_cons_succ]
      refine AnyK.take (i := 9) (v := ?_) rfl (by kernel_rfl) (by kernel_rfl) (by kernel_rfl) (by kernel_rfl) (fun _ _ _ h => h) (Or.inl ⟨by rfl, ?_⟩) (by assumption) ?_
      rotate_left
      focus
        intro w9 hSw
        try dsimp only at hSw
        go_simp
        try with_reducible rfl
      try simp only [Act.put, List.setIfInBounds_toArray, List.set_cons_zero, List.set_cons_succ]
      refine AnyK.one (i := 1) (by kernel_rfl) rfl (fun K hK => ?_)
      go_simp
      refine hK.out _ _ (fun _ => by assumption) ?_
      clear hK K
      try simp only [Act.put, List.setIfInBounds_toArray, List.set_cons_zero, List.set_cons_succ]
      have H0 := HL.out.drew
      have F0 : Fr nob WW WW.drew := Fr.drew (Fr.refl _ _)
      refine AnyK.one (i := 2) (by kernel_rfl) rfl (fun K hK => ?_)
      go_simp
      go_at_call 31
      refine (Clone_pair _ _ _ _ (RD.out _ F0).1 HO.out.1 E1).mono ?_
      rintro e x1 ⟨a1, c1, rfl, q1, b1, f1⟩
      have H1 := H0.pushRow f1 q1 b1
      have F1 := F0.trans f1 (fun _ _ x => x)
      have N1 := Heap.blk H1.first jn HJ.out
      have d1 : x1.cell? ⟨N, 3, none⟩ = some (.slice ak nd.keys.length ck) := N1.cell 3
      have g1 : x1.cell? ⟨N, 4, none⟩ = some (.slice an nd.ways.length cn) := N1.cell 4
      refine hK.out _ _ (fun _ => ⟨d1, g1⟩) ?_
      clear hK K
      try simp only [Act.put, List.setIfInBounds_toArray, List.set_cons_zero, List.set_cons_succ]
      refine AnyK.take (i := 12) (v := ?_) rfl (by kernel_rfl) (by kernel_rfl) (by kernel_rfl) (by kernel_rfl) (fun _ _ _ h => h) (Or.inl ⟨by rfl, ?_⟩) (by exact ⟨d1, g1⟩) ?_
      rotate_left
      focus
        intro w9 hSw
        try dsimp only at hSw
        go_simp
        try with_reducible rfl
      try simp only [Act.put, List.setIfInBounds_toArray, List.set_cons_zero, List.set_cons_succ]
      refine AnyK.one (i := 6) (by kernel_rfl) rfl (fun K hK => ?_)
      go_simp
      go_at_call 32
      refine (Clone_i64 _ _ _ _ (RD.out _ F1).2.1 HO.out.2.1 E2).mono ?_
      rintro e x2 ⟨a2, c2, rfl, q2, b2, f2⟩
      have H2 := H1.pushRow f2 q2 b2
      have F2 := F1.trans f2 (fun _ _ x => x)
      rw [List.append_assoc] at H2
      have N2 := Heap.blk H2.first jn HJ.out
      have d2 : x2.cell? ⟨N, 3, none⟩ = some (.slice ak nd.keys.length ck) := N2.cell 3
      have g2 : x2.cell? ⟨N, 4, none⟩ = some (.slice an nd.ways.length cn) := N2.cell 4
      refine hK.out _ _ (fun _ => ⟨d2, g2⟩) ?_
      clear hK K
      try simp only [Act.put, List.setIfInBounds_toArray, List.set_cons_zero, List.set_cons_succ]
      refine AnyK.one (i := 10) (by kernel_rfl) rfl (fun K hK => ?_)
      go_simp
      go_at_call 33
      refine (Clone_ref _ _ _ _ (RD.out _ F2).2.2 HO.out.2.2 E3).mono ?_
      rintro e x3 ⟨a3, c3, rfl, q3, b3, f3⟩
      have H3 := H2.pushRow f3 q3 b3
      have F3 := F2.trans f3 (fun _ _ x => x)
      rw [List.append_assoc] at H3
      have N3 := Heap.blk H3.first jn HJ.out
      have d3 : x3.cell? ⟨N, 3, none⟩ = some (.slice ak nd.keys.length ck) := N3.cell 3
      have g3 : x3.cell? ⟨N, 4, none⟩ = some (.slice an nd.ways.length cn) := N3.cell 4
      refine hK.out _ _ (fun _ => ⟨d3, g3⟩) ?_
      clear hK K
      try simp only [Act.put, List.setIfInBounds_toArray, List.set_cons_zero, List.set_cons_succ]
      have hS3 := And.intro d3 g3
      have k2 : x3.cell? ⟨N, 2, none⟩ = some (.slice ap nd.pairs.length cp) := N3.cell 2
      have z2 := N3.froz 2
      have z3 := N3.froz 3
      have z4 := N3.froz 4
      have HX := Lib.hid H3
      have HN := Lib.hid N3
      have HF := Lib.hid F3
      clear H0 H1 H2 H3 N1 N2 N3 d1 d2 g1 g2 q1 q2 q3 b1 b2 b3 f1 f2 f3 F0 F1 F2 F3
      refine AnyK.take (i := 11) (v := ?_) rfl (by kernel_rfl) (by kernel_rfl) (by kernel_rfl) (by kernel_rfl) (fun _ _ _ h => h) (Or.inl ⟨by rfl, ?_⟩) (by exact hS3) ?_
      rotate_left
      focus
        intro w9 hSw
        try dsimp only at hSw
        go_simp
        try with_reducible rfl
      try simp only [Act.put, List.setIfInBounds_toArray, List.set_cons_zero, List.set_cons_succ]
      refine AnyK.one (i := 13) (by kernel_rfl) rfl (fun K hK => ?_)
      go_simp
      refine hK.out _ _ (fun _ => ⟨(HN.out.set 2 _).cell 3, (HN.out.set 2 _).cell 4⟩) ?_
      clear hK K
      try simp only [Act.put, List.setIfInBounds_toArray, List.set_cons_zero, List.set_cons_succ]
      refine AnyK.take (i := 14) (v := ?_) rfl (by kernel_rfl) (by kernel_rfl) (by kernel_rfl) (by kernel_rfl) (fun _ _ _ h => h) (Or.inl ⟨by rfl, ?_⟩) (by exact ⟨(HN.out.set 2 _).cell 3, (HN.out.set 2 _).cell 4⟩) ?_
      rotate_left
      focus
        intro w9 hSw
        try dsimp only at hSw
        go_simp
        try with_reducible rfl
      try simp only [Act.put, List.setIfInBounds_toArray, List.set_cons_zero, List.set_cons_succ]
      refine AnyK.one (i := 15) (by kernel_rfl) rfl (fun K hK => ?_)
      go_simp
      refine hK.out _ _ (fun h => absurd (by decide) h) ?_
      clear hK K
      try simp only [Act.put, List.setIfInBounds_toArray, List.set_cons_zero, List.set_cons_succ]
      refine AnyK.done (by kernel_rfl) ?_ _
      refine NoPanic.normal ?_
      go_wp2_with fail
      go_meet
      refine ⟨a1, c1, a2, c2, a3, c3, ?_⟩
      have P := HX.out.set3 jn HJ.out (.slice a1 nd.pairs.length c1) (.slice a2 nd.keys.length c2) (.slice a3 nd.ways.length c3)
      rw [HJN.out, List.set_append_right _ _ (Nat.le_refl _), Nat.sub_self, List.set_cons_zero] at P
      simpa [ndL] using P
    case rest =>
      obtain ⟨a1, c1, a2, c2, a3, c3, H7⟩ := hcut
      have HA := H7.first
      have NB := HA.blk _ (get_last _ _)
      have RB := HA.first.blk _ (get_last _ _)
      have n0 : wc.cell? ⟨N, 0, none⟩ = some (.bool nd.inner) := NB.cell 0
      have n1 : wc.cell? ⟨N, 1, none⟩ = some (.bool nd.tagged) := NB.cell 1
      have n2 : wc.cell? ⟨N, 2, none⟩ = some (.slice a1 nd.pairs.length c1) := NB.cell 2
      have n3 : wc.cell? ⟨N, 3, none⟩ = some (.slice a2 nd.keys.length c2) := NB.cell 3
      have n4 : wc.cell? ⟨N, 4, none⟩ = some (.slice a3 nd.ways.length c3) := NB.cell 4
      have k0 : wc.cell? ⟨R, 0, none⟩ = some (.bool false) := RB.cell 0
      have k1 : wc.cell? ⟨R, 1, none⟩ = some (.bool false) := RB.cell 1
      have k2 : wc.cell? ⟨R, 2, none⟩ = some (.slice none 0 0) := RB.cell 2
      have k3 : wc.cell? ⟨R, 3, none⟩ = some (.slice none 0 0) := RB.cell 3
      have k4 : wc.cell? ⟨R, 4, none⟩ = some (.slice none 0 0) := RB.cell 4
      have z0 := RB.froz 0
      have z1 := RB.froz 1
      have z2 := RB.froz 2
      have z3 := RB.froz 3
      have z4 := RB.froz 4
      have HH := Lib.hid H7
      clear H7 HA NB RB
      go_wp2_with fail
      have H8 := HH.out
      rw [List.append_assoc] at H8
      have H5 := H8.set5 l.length (get_last _ _) (.bool nd.inner) (.bool nd.tagged) (.slice a1 nd.pairs.length c1) (.slice a2 nd.keys.length c2) (.slice a3 nd.ways.length c3)
      generalize (((((wc.setCell ⟨R, 0, none⟩ (.bool nd.inner)).setCell ⟨R, 1, none⟩ (.bool nd.tagged)).setCell ⟨R, 2, none⟩ (.slice a1 nd.pairs.length c1)).setCell ⟨R, 3, none⟩ (.slice a2 nd.keys.length c2)).setCell ⟨R, 4, none⟩ (.slice a3 nd.ways.length c3)) = W5 at H5 ⊢
      rw [List.set_append_right _ _ (Nat.le_refl _), Nat.sub_self, List.set_cons_zero] at H5
      have hb5 := H5.first.blk _ (get_last _ _)
      have e0 : W5.cell? ⟨R, 0, none⟩ = some (.bool nd.inner) := hb5.cell 0
      have e1 : W5.cell? ⟨R, 1, none⟩ = some (.bool nd.tagged) := hb5.cell 1
      have e2 : W5.cell? ⟨R, 2, none⟩ = some (.slice a1 nd.pairs.length c1) := hb5.cell 2
      have e3 : W5.cell? ⟨R, 3, none⟩ = some (.slice a2 nd.keys.length c2) := hb5.cell 3
      have e4 : W5.cell? ⟨R, 4, none⟩ = some (.slice a3 nd.ways.length c3) := hb5.cell 4
      refine bodyPost_ret (v := ndV nd (.slice a1 nd.pairs.length c1) (.slice a2 nd.keys.length c2) (.slice a3 nd.ways.length c3)) (by simp [results, Try.results18, go_sem, ndV, e0, e1, e2, e3, e4]) rfl ⟨(.slice a1 nd.pairs.length c1), (.slice a2 nd.keys.length c2), (.slice a3 nd.ways.length c3), rfl, ?_⟩
      exact Heap.mid (m := [blkP R 36 #[.bool nd.inner, .bool nd.tagged, (.slice a1 nd.pairs.length c1), (.slice a2 nd.keys.length c2), (.slice a3 nd.ways.length c3)], blkP N 36 #[.bool nd.inner, .bool nd.tagged, (.slice a1 nd.pairs.length c1), (.slice a2 nd.keys.length c2), (.slice a3 nd.ways.length c3)]]) (by simpa using H5)
end
end Go.Proofs.Ytolkpmbmgiplcaa
