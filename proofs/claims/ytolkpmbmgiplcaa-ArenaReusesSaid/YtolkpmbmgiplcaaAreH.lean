/- The arena's Alloc. No condition but the arena's bounds, that the node's slices can be read while only the arena changes, and that it has not too many entries. -/
import Derived.Test.YtolkpmbmgiplcaaAreG
namespace Go.Proofs.Ytolkpmbmgiplcaa
open Go Go.RowKit
set_option linter.unusedVariables false
set_option linter.unusedSimpArgs false
/-- The place that comes next: the first that was freed, else a new one. -/
def prepAr (ar : Ar) : Nat × Ar := match ar.free with | i :: r => (i, { ar with free := r }) | [] => (ar.slots.length, { ar with slots := ar.slots ++ [noSl] })
def newSl (nd : Nd) (c : Nat) : Sl := ⟨nd, nd.ways, 0, false, c, true⟩
def allocAr (nd : Nd) (ar : Ar) : (Int × Bool) × Ar :=
  if ar.most ≤ ar.used then ((0, false), ar)
  else ((refOf (prepAr ar).1 (((prepAr ar).2.at (prepAr ar).1).count + 1 : Nat), true), { (prepAr ar).2.put (prepAr ar).1 (newSl nd (((prepAr ar).2.at (prepAr ar).1).count + 1)) with used := ar.used + 1 })
/-- One more may be made. -/
structure MoreAr (ar : Ar) : Prop where
  ok : OkAr ar
  few : ar.slots.length ≤ 65000
  cnt : ∀ s ∈ ar.slots, s.count ≤ 900000
  frees : ar.free.length ≤ 100000
theorem prep_ok {ar : Ar} (h : MoreAr ar) : (prepAr ar).1 < (prepAr ar).2.slots.length ∧ (prepAr ar).1 ≤ 65535 ∧ (prepAr ar).2.used = ar.used ∧ ((prepAr ar).2.at (prepAr ar).1).count ≤ 900000 := by
  unfold prepAr
  cases hf : ar.free with
  | nil =>
    refine ⟨by simp, by have := h.few; simp; omega, rfl, ?_⟩
    simp [Ar.at, List.getD, noSl]
  | cons i r =>
    have hi := h.ok.free i (by rw [hf]; exact List.mem_cons_self)
    have := h.few
    refine ⟨hi, by simp; omega, rfl, ?_⟩
    have : (ar.slots.getD i default) ∈ ar.slots := by simp [List.getD, List.getElem?_eq_getElem hi]
    exact h.cnt _ this
theorem info_slot : (Try.prog.info? 80).map (fun i => (i.zero, i.size, i.bytes)) = some (some (.agg #[.bool false, .bool false, .slice none 0 0, .slice none 0 0, .slice none 0 0, .slice none 0 0, .int .i64 0, .bool false, .int .u32 0, .bool false]), 10, 128) := by kernel_rfl
section
variable {w0 w : World} {l : List Piece} {a : Nat} {ar : Ar}
set_option maxHeartbeats 4000000 in
set_option maxRecDepth 100000 in
theorem Alloc_h (h : Heap w0 w l) (i : Nat) (hi : l[i]? = some (areP a ar)) (ok : MoreAr ar) (nd : Nd) (hnd : nd.few) (vp vk vn : Value)
    (rd : ∀ x q, Heap w0 x (l.set i q) → RdV x vp nd.pairs.length 2 (pairC nd.pairs) ∧ RdV x vk nd.keys.length 1 (intC nd.keys) ∧ RdV x vn nd.ways.length 1 (intC nd.ways)) :
    Calls Try.prog 12 #[.pointer (some ⟨a, 0, none⟩), ndV nd vp vk vn] w fun e w' => e = .returned (.tuple #[.int .i64 (allocAr nd ar).1.1, .bool (allocAr nd ar).1.2]) ∧ Heap w0 w' (l.set i (areP a (allocAr nd ar).2)) := by
  have hil : i < l.length := (List.getElem?_eq_some_iff.1 hi).1
  have hs := areP_set hi
  obtain ⟨B1, B2, B3⟩ := hnd
  obtain ⟨r1, r2, r3⟩ := rd w (areP a ar) (by rw [hs]; exact h)
  obtain ⟨ap, cp, rfl⟩ := r1.len
  obtain ⟨ak, ck, rfl⟩ := r2.len
  obtain ⟨an, cn, rfl⟩ := r3.len
  clear r1 r2 r3
  have h1 := h.alloc 36 #[.bool nd.inner, .bool nd.tagged, .slice ap nd.pairs.length cp, .slice ak nd.keys.length ck, .slice an nd.ways.length cn]
  generalize hN : w.heap.size = N at *
  have RDH := Lib.hid rd
  have OK := Lib.hid ok
  have HI := Lib.hid hi
  have HS := Lib.hid hs
  clear rd ok hi hs h
  obtain ⟨aS, af, cs, cf, hb, _, _, _⟩ := free_h h1 i (get_left HI.out)
  have m2 := hb.cell 2
  have m3 := hb.cell 3
  have k2 : (w.alloc (.cells #[.bool nd.inner, .bool nd.tagged, .slice ap nd.pairs.length cp, .slice ak nd.keys.length ck, .slice an nd.ways.length cn] 36)).cell? ⟨a, 2, none⟩ = some (.int .i64 ar.most) := m2
  have k3 : (w.alloc (.cells #[.bool nd.inner, .bool nd.tagged, .slice ap nd.pairs.length cp, .slice ak nd.keys.length ck, .slice an nd.ways.length cn] 36)).cell? ⟨a, 3, none⟩ = some (.int .i64 ar.used) := m3
  clear hb m2 m3
  have H1 := Lib.hid h1
  clear h1
  unfold ndV
  by_cases hfull : ar.most ≤ ar.used
  · have e0 : allocAr nd ar = ((0, false), ar) := by unfold allocAr; rw [if_pos hfull]
    rw [e0]
    dsimp only
    have hd : decide (ar.most ≤ ar.used) = true := by simpa using hfull
    clear e0
    rw [HS.out]
    go_enter Try.func12, Try.ntmps12
    go_wp2_with fail
    clear hN
    generalize w.alloc (.cells #[.bool nd.inner, .bool nd.tagged, .slice ap nd.pairs.length cp, .slice ak nd.keys.length ck, .slice an nd.ways.length cn] 36) = W1 at *
    go_quiet (fail)
    go_wp2_with fail
    go_ret2
    exact ⟨rfl, (H1.out.drewN _).first⟩
  · have e0 : allocAr nd ar = ((refOf (prepAr ar).1 (((prepAr ar).2.at (prepAr ar).1).count + 1 : Nat), true), { (prepAr ar).2.put (prepAr ar).1 (newSl nd (((prepAr ar).2.at (prepAr ar).1).count + 1)) with used := ar.used + 1 }) := by unfold allocAr; rw [if_neg hfull]
    rw [e0]
    dsimp only
    obtain ⟨q1, q2, q3, q4⟩ := prep_ok OK.out
    generalize hpr : prepAr ar = pr at *
    obtain ⟨pi, ar1⟩ := pr
    simp only at q1 q2 q3 q4 ⊢
    generalize hcnt : (ar1.at pi).count = cnt at *
    have HPR := Lib.hid hpr
    have HC := Lib.hid hcnt
    clear hpr hcnt
    have hd : decide (ar.most ≤ ar.used) = false := by simpa using hfull
    obtain ⟨u0, u1⟩ := OK.out.ok.used
    have bm := OK.out.ok.most
    have hfew := OK.out.few
    have hfrees := OK.out.frees
    clear e0
    go_enter Try.func12, Try.ntmps12
    go_wp2_with fail
    clear hN
    generalize w.alloc (.cells #[.bool nd.inner, .bool nd.tagged, .slice ap nd.pairs.length cp, .slice ak nd.keys.length ck, .slice an nd.ways.length cn] 36) = W1 at *
    go_quiet (fail)
    have h2 := H1.out.drewN nq
    generalize W1.drewN nq = W2 at *
    clear k2 k3 H1 hfull hd
    obtain ⟨aS1, af1, cs1, cf1, hb1, fq, fty, FU⟩ := free_h h2 i (get_left HI.out)
    obtain ⟨aS2, af2, cs2, cf2, us, hb2, gq, gty, GU⟩ := grow_h h2 i (get_left HI.out)
    have j0 : W2.cell? ⟨a, 0, none⟩ = some (.slice aS2 ar.slots.length cs2) := hb2.cell 0
    have j1 : W2.cell? ⟨a, 1, none⟩ = some (.slice af1 ar.free.length cf1) := hb1.cell 1
    have y0 := hb1.froz 0
    have y1 := hb1.froz 1
    have la := hb1.lt
    have FA := Lib.hid (And.intro fq (And.intro fty FU))
    have GA := Lib.hid (And.intro gq (And.intro gty GU))
    clear hb1 hb2 fq fty FU gq gty GU h2
    go_upto_if 31 with fail
    go_cut [6] (fun s6 wx => s6 = .int .i64 (pi : Nat) ∧ Heap w0 wx (l.set i (areP a ar1) ++ [blkP N 36 #[.bool nd.inner, .bool nd.tagged, .slice ap nd.pairs.length cp, .slice ak nd.keys.length ck, .slice an nd.ways.length cn]]))
    case first =>
      cases hf : ar.free with
      | nil =>
        have HP : Hid (prepAr ar = (ar.slots.length, { ar with slots := ar.slots ++ [noSl] })) := Lib.hid (by unfold prepAr; rw [hf])
        rw [hf] at j1
        obtain ⟨i0, hi0, hz0, hz1, hz2⟩ := info_parts info_slot
        have hlm : ar.slots.length + 1 ≤ maxLen := by unfold maxLen; omega
        have hlb : (ar.slots.length + 1) * 128 ≤ 140737488355328 := by omega
        have HF := Lib.hid hf
        clear hf
        go_wp2_with (at_builtin; refine wpList_append_typed _ rfl _ _ _ (by rfl) 80 i0 _ 10 128 Try.underlying76 hi0 hz0 hz1 hz2 rfl (by decide) (.slice aS2 ar.slots.length cs2) ar.slots.length us (by rfl) (GA.out.1.fr (F := nob) (by repeat (first | exact Fr.refl _ _ | apply Fr.drew | apply Fr.alloc)) (fun _ _ _ x => x)) _ 1 (slotC noSl noVs) (by rfl) (RdV.block (cs := (slotC noSl noVs).toArray) (t := 80) (by repeat (first | exact Blk.new' rfl _ _ | apply Blk.drew | apply Blk.alloc)) rfl (by decide)) (by simp [Value.oneCell', slotC, noSl, noVs, nilS, noNd]) hlm hlb ?_)
        intro a7 c7 w7 q7 grow7 hat7
        have f7 : Fr (fun j => (Value.slice aS2 ar.slots.length cs2).ownBlock = some j) W2 w7 := Fr.grown (by repeat (first | exact Fr.refl _ _ | apply Fr.drew | apply Fr.alloc)) grow7 (fun k hk => .inl hk)
        have x1 := f7.cell' j0 (fun x => (GA.out.2.1 a x).1 rfl)
        have x2 := f7.froz' j0 y0 (fun x => (GA.out.2.1 a x).1 rfl)
        have P := GA.out.2.2 w7 (.slice a7 (ar.slots.length + 1) c7) f7 q7 (fun k hk => by
          obtain ⟨h, c⟩ := hat7 k hk
          refine ⟨h.imp_right (fun h => ?_), c⟩
          try simp at h
          omega)
        rw [List.set_append_left _ _ hil] at P
        have PP := Lib.hid P
        clear P q7 grow7 hat7 f7
        go_wp2_with fail
        go_meet
        obtain ⟨rfl, rfl⟩ := Prod.mk.inj (HPR.out.symm.trans HP.out)
        exact ⟨rfl, PP.out⟩
      | cons i1 rest =>
        have HP : Hid (prepAr ar = (i1, { ar with free := rest })) := Lib.hid (by unfold prepAr; rw [hf])
        rw [hf] at j1 FA
        have fq := FA.out.1
        obtain ⟨gf, of_, cur, rfl, _, hcf, hat⟩ := fq.at (by simp)
        have xf : W2.cell? ⟨gf, of_, none⟩ = some (.int .i64 (i1 : Nat)) := hat 0 _ rfl
        obtain ⟨P1, P2⟩ := QRow.pop (n := rest.length) fq
        have fty := FA.out.2.1
        have B7 : ∀ (o : Nat) (n c : Nat) (g : Nat), (Value.slice (some ⟨gf, o, none⟩) n c).ownBlock = some g → ((Value.slice (some ⟨gf, of_, none⟩) (i1 :: rest).length cf1).ownBlock = some g ∨ W2.heap.size ≤ g) ∧ ∃ c, Blk W2 g 3 c := fun o n c g hg => by
          simp [Value.ownBlock] at hg
          subst hg
          exact ⟨.inl rfl, (fty _ rfl).2⟩
        have lf := (fty gf rfl).1
        by_cases hc1 : cf1 = 1
        · subst hc1
          have hr0 : rest.length = 0 := by simp only [List.length_cons] at hcf; omega
          obtain rfl : rest = [] := List.eq_nil_of_length_eq_zero hr0
          have PP := Lib.hid (FA.out.2.2 W2 (.slice (some ⟨gf, of_, none⟩) 0 0) [] (Fr.refl _ _) (P2 rfl) (B7 _ _ _))
          rw [List.set_append_left _ _ hil] at PP
          simp only [List.length_cons, List.length_nil] at *
          clear hat P1 P2 fq fty hcf B7 hr0 hf FA
          go_wp2_with fail
          go_region
          all_goals
            go_wp2_with fail
            go_meet
            obtain ⟨rfl, rfl⟩ := Prod.mk.inj (HPR.out.symm.trans HP.out)
            exact ⟨rfl, PP.out.drew⟩
        · have hc2 : 2 ≤ cf1 := by simp only [List.length_cons] at hcf; omega
          have PP := Lib.hid (FA.out.2.2 W2 (.slice (some ⟨gf, of_ + 1, none⟩) rest.length (cf1 - 1)) rest (Fr.refl _ _) P1 (B7 _ _ _))
          rw [List.set_append_left _ _ hil] at PP
          simp only [List.length_cons] at *
          clear hat P1 P2 fq fty hcf B7 hf FA
          go_wp2_with fail
          go_region
          all_goals
            go_wp2_with fail
            go_meet
            obtain ⟨rfl, rfl⟩ := Prod.mk.inj (HPR.out.symm.trans HP.out)
            exact ⟨rfl, PP.out.drew⟩
    case rest =>
      obtain ⟨rfl, H3⟩ := hcut
      clear j0 j1 y0 y1 la FA GA
      have hia : (l.set i (areP a ar1))[i]? = some (areP a ar1) := List.getElem?_set_self hil
      have hps : ar1.slots[pi]? = some (ar1.at pi) := by simp [Ar.at, List.getD, List.getElem?_eq_getElem q1]
      obtain ⟨g, off, cap, cf3, af3, v3, hb3, hcap3, _, _, _, _, _⟩ := slot_h H3 i (get_left hia) hps
      have j0 : wc.cell? ⟨a, 0, none⟩ = some (.slice (some ⟨g, off, none⟩) ar1.slots.length cap) := hb3.cell 0
      obtain ⟨r1, r2, r3⟩ := RDH.out wc (areP a ar1) H3.first
      have RD : Hid (∀ x, Fr nob wc x → RdV x (.slice ap nd.pairs.length cp) nd.pairs.length 2 (pairC nd.pairs) ∧ RdV x (.slice ak nd.keys.length ck) nd.keys.length 1 (intC nd.keys) ∧ RdV x (.slice an nd.ways.length cn) nd.ways.length 1 (intC nd.ways)) := Lib.hid fun x F => ⟨r1.fr F (fun _ _ _ x => x), r2.fr F (fun _ _ _ x => x), r3.fr F (fun _ _ _ x => x)⟩
      clear r1 r2 r3
      have E1 : nd.pairs.length ≤ 1000000 := by omega
      have E2 : nd.keys.length ≤ 1000000 := by omega
      have E3 : nd.ways.length ≤ 1000000 := by omega
      have HO := Lib.hid (And.intro (pairC_one nd.pairs) (And.intro (intC_one nd.keys) (intC_one nd.ways)))
      obtain ⟨jn, hjn⟩ : ∃ jn, jn = (l.set i (areP a ar1)).length := ⟨_, rfl⟩
      have HJ : Hid ((l.set i (areP a ar1) ++ [blkP N 36 #[.bool nd.inner, .bool nd.tagged, .slice ap nd.pairs.length cp, .slice ak nd.keys.length ck, .slice an nd.ways.length cn]])[jn]? = some (blkP N 36 #[.bool nd.inner, .bool nd.tagged, .slice ap nd.pairs.length cp, .slice ak nd.keys.length ck, .slice an nd.ways.length cn])) := Lib.hid (by rw [hjn]; exact get_last _ _)
      have HJN := Lib.hid hjn
      clear hjn
      have NB := H3.blk jn HJ.out
      have u3 : wc.cell? ⟨N, 3, none⟩ = some (.slice ak nd.keys.length ck) := NB.cell 3
      have u4 : wc.cell? ⟨N, 4, none⟩ = some (.slice an nd.ways.length cn) := NB.cell 4
      have u2 : wc.cell? ⟨N, 2, none⟩ = some (.slice ap nd.pairs.length cp) := NB.cell 2
      have hNa : N ≠ a := NB.ne hb3 (by decide)
      have HL := Lib.hid H3
      have HB3 := Lib.hid hb3
      have HIA := Lib.hid (And.intro hia hps)
      clear NB H3 hb3 hia hps
      go_upto_region 8 with fail
      go_cut [] (fun wx => ∃ a1 c1 a2 c2 a3 c3, Blk wx a 78 #[.slice (some ⟨g, off, none⟩) ar1.slots.length cap, .slice af3 ar1.free.length cf3, .int .i64 ar1.most, .int .i64 ar1.used, .int .i64 ar1.faults] ∧ Heap w0 wx (l.set i (areP a ar1) ++ [blkP N 36 #[.bool nd.inner, .bool nd.tagged, .slice a1 nd.pairs.length c1, .slice a2 nd.keys.length c2, .slice a3 nd.ways.length c3]] ++ ndL nd (.slice a1 nd.pairs.length c1) (.slice a2 nd.keys.length c2) (.slice a3 nd.ways.length c3)))
      case first =>
        refine wp_region_noPanic ?_
        refine AnyK.start (ks := [15]) (S := fun w' => w'.cell? ⟨N, 3, none⟩ = some (.slice ak nd.keys.length ck) ∧ w'.cell? ⟨N, 4, none⟩ = some (.slice an nd.ways.length cn)) (by kernel_rfl) (by go_keep) (fun hHeld => ?_)
        refine AnyK.take (i := 0) (v := ?_) rfl (by kernel_rfl) (by kernel_rfl) (by kernel_rfl) (by kernel_rfl) (fun _ _ _ h => h) (Or.inl ⟨by rfl, ?_⟩) (by assumption) ?_
        rotate_left
        focus
          intro w9 hSw
          try dsimp only at hSw
          go_simp
          try with_reducible rfl
        try simp only [Act.put, List.setIfInBounds_toArray, List.set_cons_zero, List.set_cons_succ]
        refine AnyK.take (i := 3) (v := ?_) rfl (by kernel_rfl) (by kernel_rfl) (by kernel_rfl) (by kernel_rfl) (fun _ _ _ h => h) (Or.inl ⟨by rfl, ?_⟩) (by assumption) ?_
        rotate_left
        focus
          intro w9 hSw
          try dsimp only at hSw
          go_simp
          try with_reducible rfl
        try simp only [Act.put, List.setIfInBounds_toArray, List.set_cons_zero, List.set_cons_succ]
        refine AnyK.take (i := 4) (v := ?_) rfl (by kernel_rfl) (by kernel_rfl) (by kernel_rfl) (by kernel_rfl) (fun _ _ _ h => h) (Or.inl ⟨by rfl, ?_⟩) (by assumption) ?_
        rotate_left
        focus
          intro w9 hSw
          try dsimp only at hSw
          go_simp
          try with_reducible rfl
        try simp only [Act.put, List.setIfInBounds_toArray, List.set_cons_zero, List.set_cons_succ]
        refine AnyK.take (i := 5) (v := ?_) rfl (by kernel_rfl) (by kernel_rfl) (by kernel_rfl) (by kernel_rfl) (fun _ _ _ h => h) (Or.inl ⟨by rfl, ?_⟩) (by assumption) ?_
        rotate_left
        focus
          intro w9 hSw
          try dsimp only at hSw
          go_simp
          try with_reducible rfl
        try simp only [Act.put, List.setIfInBounds_toArray, List.set_cons_zero, List.set_cons_succ]
        refine AnyK.take (i := 7) (v := ?_) rfl (by kernel_rfl) (by kernel_rfl) (by kernel_rfl) (by kernel_rfl) (fun _ _ _ h => h) (Or.inl ⟨by rfl, ?_⟩) (by assumption) ?_
        rotate_left
        focus
          intro w9 hSw
          try dsimp only at hSw
          go_simp
          try with_reducible rfl
        try simp only [Act.put, List.setIfInBounds_toArray, List.set_cons_zero, List.set_cons_succ]
        refine AnyK.take (i := 8) (v := ?_) rfl (by kernel_rfl) (by kernel_rfl) (by kernel_rfl) (by kernel_rfl) (fun _ _ _ h => h) (Or.inl ⟨by rfl, ?_⟩) (by assumption) ?_
        rotate_left
        focus
          intro w9 hSw
          try dsimp only at hSw
          go_simp
          try with_reducible rfl
        try simp only [Act.put, List.setIfInBounds_toArray, List.set_cons_zero, List.set_cons_succ]
        refine AnyK.take (i := 9) (v := ?_) rfl (by kernel_rfl) (by kernel_rfl) (by kernel_rfl) (by kernel_rfl) (fun _ _ _ h => h) (Or.inl ⟨by rfl, ?_⟩) (by assumption) ?_
        rotate_left
        focus
          intro w9 hSw
          try dsimp only at hSw
          go_simp
          try with_reducible rfl
        try simp only [Act.put, List.setIfInBounds_toArray, List.set_cons_zero, List.set_cons_succ]
        refine AnyK.one (i := 1) (by kernel_rfl) rfl (fun K hK => ?_)
        go_simp
        refine hK.out _ _ (fun _ => by assumption) ?_
        clear hK K
        try simp only [Act.put, List.setIfInBounds_toArray, List.set_cons_zero, List.set_cons_succ]
        have H0 := HL.out.drew
        have F0 : Fr nob wc wc.drew := Fr.drew (Fr.refl _ _)
        refine AnyK.one (i := 2) (by kernel_rfl) rfl (fun K hK => ?_)
        go_simp
        go_at_call 31
        refine (Clone_pair _ _ _ _ (RD.out _ F0).1 HO.out.1 E1).mono ?_
        rintro e x1 ⟨a1, c1, rfl, q1, b1, f1⟩
        have H1 := H0.pushRow f1 q1 b1
        have F1 := F0.trans f1 (fun _ _ x => x)
        have N1 := Heap.blk H1.first jn HJ.out
        have d1 : x1.cell? ⟨N, 3, none⟩ = some (.slice ak nd.keys.length ck) := N1.cell 3
        have g1 : x1.cell? ⟨N, 4, none⟩ = some (.slice an nd.ways.length cn) := N1.cell 4
        refine hK.out _ _ (fun _ => ⟨d1, g1⟩) ?_
        clear hK K
        try simp only [Act.put, List.setIfInBounds_toArray, List.set_cons_zero, List.set_cons_succ]
        refine AnyK.take (i := 12) (v := ?_) rfl (by kernel_rfl) (by kernel_rfl) (by kernel_rfl) (by kernel_rfl) (fun _ _ _ h => h) (Or.inl ⟨by rfl, ?_⟩) (by exact ⟨d1, g1⟩) ?_
        rotate_left
        focus
          intro w9 hSw
          try dsimp only at hSw
          go_simp
          try with_reducible rfl
        try simp only [Act.put, List.setIfInBounds_toArray, List.set_cons_zero, List.set_cons_succ]
        refine AnyK.one (i := 6) (by kernel_rfl) rfl (fun K hK => ?_)
        go_simp
        go_at_call 32
        refine (Clone_i64 _ _ _ _ (RD.out _ F1).2.1 HO.out.2.1 E2).mono ?_
        rintro e x2 ⟨a2, c2, rfl, q2, b2, f2⟩
        have H2 := H1.pushRow f2 q2 b2
        have F2 := F1.trans f2 (fun _ _ x => x)
        rw [List.append_assoc] at H2
        have N2 := Heap.blk H2.first jn HJ.out
        have d2 : x2.cell? ⟨N, 3, none⟩ = some (.slice ak nd.keys.length ck) := N2.cell 3
        have g2 : x2.cell? ⟨N, 4, none⟩ = some (.slice an nd.ways.length cn) := N2.cell 4
        refine hK.out _ _ (fun _ => ⟨d2, g2⟩) ?_
        clear hK K
        try simp only [Act.put, List.setIfInBounds_toArray, List.set_cons_zero, List.set_cons_succ]
        refine AnyK.one (i := 10) (by kernel_rfl) rfl (fun K hK => ?_)
        go_simp
        go_at_call 33
        refine (Clone_ref _ _ _ _ (RD.out _ F2).2.2 HO.out.2.2 E3).mono ?_
        rintro e x3 ⟨a3, c3, rfl, q3, b3, f3⟩
        have H3 := H2.pushRow f3 q3 b3
        have F3 := F2.trans f3 (fun _ _ x => x)
        rw [List.append_assoc] at H3
        have N3 := Heap.blk H3.first jn HJ.out
        have d3 : x3.cell? ⟨N, 3, none⟩ = some (.slice ak nd.keys.length ck) := N3.cell 3
        have g3 : x3.cell? ⟨N, 4, none⟩ = some (.slice an nd.ways.length cn) := N3.cell 4
        refine hK.out _ _ (fun _ => ⟨d3, g3⟩) ?_
        clear hK K
        try simp only [Act.put, List.setIfInBounds_toArray, List.set_cons_zero, List.set_cons_succ]
        have hS3 := And.intro d3 g3
        have k2 : x3.cell? ⟨N, 2, none⟩ = some (.slice ap nd.pairs.length cp) := N3.cell 2
        have z2 := N3.froz 2
        have z3 := N3.froz 3
        have z4 := N3.froz 4
        have HX := Lib.hid H3
        have HN := Lib.hid N3
        have HF := Lib.hid F3
        clear H0 H1 H2 H3 N1 N2 N3 d1 d2 g1 g2 q1 q2 q3 b1 b2 b3 f1 f2 f3 F0 F1 F2 F3
        refine AnyK.take (i := 11) (v := ?_) rfl (by kernel_rfl) (by kernel_rfl) (by kernel_rfl) (by kernel_rfl) (fun _ _ _ h => h) (Or.inl ⟨by rfl, ?_⟩) (by exact hS3) ?_
        rotate_left
        focus
          intro w9 hSw
          try dsimp only at hSw
          go_simp
          try with_reducible rfl
        try simp only [Act.put, List.setIfInBounds_toArray, List.set_cons_zero, List.set_cons_succ]
        refine AnyK.one (i := 13) (by kernel_rfl) rfl (fun K hK => ?_)
        go_simp
        refine hK.out _ _ (fun _ => ⟨(HN.out.set 2 _).cell 3, (HN.out.set 2 _).cell 4⟩) ?_
        clear hK K
        try simp only [Act.put, List.setIfInBounds_toArray, List.set_cons_zero, List.set_cons_succ]
        refine AnyK.take (i := 14) (v := ?_) rfl (by kernel_rfl) (by kernel_rfl) (by kernel_rfl) (by kernel_rfl) (fun _ _ _ h => h) (Or.inl ⟨by rfl, ?_⟩) (by exact ⟨(HN.out.set 2 _).cell 3, (HN.out.set 2 _).cell 4⟩) ?_
        rotate_left
        focus
          intro w9 hSw
          try dsimp only at hSw
          go_simp
          try with_reducible rfl
        try simp only [Act.put, List.setIfInBounds_toArray, List.set_cons_zero, List.set_cons_succ]
        refine AnyK.one (i := 15) (by kernel_rfl) rfl (fun K hK => ?_)
        go_simp
        refine hK.out _ _ (fun h => absurd (by decide) h) ?_
        clear hK K
        try simp only [Act.put, List.setIfInBounds_toArray, List.set_cons_zero, List.set_cons_succ]
        refine AnyK.done (by kernel_rfl) ?_ _
        refine NoPanic.normal ?_
        go_wp2_with fail
        go_meet
        refine ⟨a1, c1, a2, c2, a3, c3, (((HB3.out.fr HF.out (fun x => x)).other (p := ⟨N, 2, none⟩) hNa _).other (p := ⟨N, 3, none⟩) hNa _).other (p := ⟨N, 4, none⟩) hNa _, ?_⟩
        have P := HX.out.set3 jn HJ.out (.slice a1 nd.pairs.length c1) (.slice a2 nd.keys.length c2) (.slice a3 nd.ways.length c3)
        rw [HJN.out, List.set_append_right _ _ (Nat.le_refl _), Nat.sub_self, List.set_cons_zero] at P
        simpa [ndL] using P
      case rest =>
        clear j0 u2 u3 u4 HL HB3 RD HJ HJN
        obtain ⟨a1, c1, a2, c2, a3, c3, hb4, H4⟩ := hcut
        rw [List.append_assoc] at H4
        obtain ⟨g', off', cap', cf4, af4, v4, hb5, hcap5, hc5, hz5, _, _, hu5⟩ := slot_h H4 i (get_left HIA.out.1) HIA.out.2
        obtain ⟨rfl, rfl⟩ : g' = g ∧ off' = off := by
          have e1 := hb4.cell 0
          rw [hb5.cell 0] at e1
          simp at e1
          exact ⟨e1.1.1, e1.1.2⟩
        have c8 : wc.cell? ⟨g', off' + pi * 10 + 8, none⟩ = some (.int .u32 (ar1.at pi).count) := hc5 8 _ rfl
        have z8 := hz5 (off' + pi * 10 + 8)
        have U5 := hu5 8 (.int .u32 (((ar1.at pi).count + 1 : Nat) : Int)) { ar1.at pi with count := (ar1.at pi).count + 1 } (by decide) rfl rfl rfl
        rw [List.set_append_left _ _ (by rw [List.length_set]; exact hil), List.set_set] at U5
        have hcnt := HC.out
        rw [hcnt] at c8 U5
        clear hcnt
        have hcast : ((cnt + 1 : Nat) : Int) = (cnt : Int) + 1 := by omega
        rw [hcast] at U5
        obtain ⟨aG, _, cG, _, _, hbG, _, htG, _⟩ := grow_h H4 i (get_left HIA.out.1)
        have hga : g' ≠ a := by
          have e1 := hb4.cell 0
          rw [hbG.cell 0] at e1
          simp at e1
          obtain ⟨rfl, rfl⟩ := e1
          exact (htG g' rfl).1
        have HBW := hb4.other (p := ⟨g', off' + pi * 10 + 8, none⟩) hga (.int .u32 ((cnt : Int) + 1))
        have e8 : { ar1.at pi with count := cnt + 1 } = ({ ar1.at pi with count := cnt + 1 } : Sl) := rfl
        generalize hs2 : ({ ar1.at pi with count := cnt + 1 } : Sl) = s2 at *
        have hs2n : s2.count = cnt + 1 := by rw [← hs2]
        have HS2 := Lib.hid hs2n
        have q1' : pi < (ar1.put pi s2).slots.length := by simp [Ar.put]; exact q1
        have hps2 : (ar1.put pi s2).slots[pi]? = some s2 := by simp [Ar.put, q1]
        have hu2 : (ar1.put pi s2).used = ar.used := q3
        have EQ : Hid (∀ x, ({ (ar1.put pi s2) with slots := (ar1.put pi s2).slots.set pi x } : Ar) = ar1.put pi x) := Lib.hid fun x => by simp [Ar.put, List.set_set]
        have hia2 : (l.set i (areP a (ar1.put pi s2)))[i]? = some (areP a (ar1.put pi s2)) := List.getElem?_set_self hil
        generalize har2 : ar1.put pi s2 = ar2 at *
        have HU := Lib.hid U5
        have HI2 := Lib.hid (And.intro hia2 (And.intro hps2 q1'))
        have hl2 : ar2.slots.length = ar1.slots.length := by rw [← har2]; simp [Ar.put]
        have hnd2 : s2 = { ar1.at pi with count := cnt + 1 } := hs2.symm
        have hagne : a ≠ g' := fun x => hga x.symm
        clear hb4 hb5 hc5 hz5 hu5 U5 H4 hcast e8 hs2n hia2 hps2 q1' hbG htG
        have HS3 := Lib.hid (And.intro hnd2 (And.intro har2 hl2))
        clear hs2 hnd2 har2 hl2
        go_upto_region 10 with fail
        have H6 := HU.out
        generalize wc.setCell ⟨g', off' + pi * 10 + 8, none⟩ (.int .u32 ((cnt : Int) + 1)) = W4 at *
        obtain ⟨g6, off6, cap6, cf6, af6, v6, hb6, hcap6, hc6, hz6, ⟨rp6, rk6, rn6, rw6⟩, _, _⟩ := slot_h H6 i (get_left HI2.out.1) HI2.out.2.1
        obtain ⟨rfl, rfl⟩ : g6 = g' ∧ off6 = off' := by
          have e1 := HBW.cell 0
          rw [hb6.cell 0] at e1
          simp at e1
          exact ⟨e1.1.1, e1.1.2⟩
        obtain ⟨d2, p2, hp2⟩ := rp6.len
        obtain ⟨d3, p3, hp3⟩ := rk6.len
        obtain ⟨d4, p4, hp4⟩ := rn6.len
        obtain ⟨d5, p5, hp5, _, _⟩ := rw6.form
        have s0 := hc6 0 (.bool s2.nd.inner) rfl
        have s1 := hc6 1 (.bool s2.nd.tagged) rfl
        have s3 := hc6 2 v6.p rfl
        have s4 := hc6 3 v6.k rfl
        have s5 := hc6 4 v6.n rfl
        have s6 := hc6 5 v6.w rfl
        have s7 := hc6 6 (.int .i64 s2.info) rfl
        have s8 := hc6 7 (.bool s2.mark) rfl
        have s9 := hc6 8 (.int .u32 s2.count) rfl
        have s10 := hc6 9 (.bool s2.used) rfl
        rw [HS2.out, show ((cnt + 1 : Nat) : Int) = (cnt : Int) + 1 from by omega] at s9
        rw [Nat.add_zero] at s0
        rw [← List.append_assoc] at H6
        have NB := H6.first.blk _ (get_last _ _)
        have n0 : W4.cell? ⟨N, 0, none⟩ = some (.bool nd.inner) := NB.cell 0
        have n1 : W4.cell? ⟨N, 1, none⟩ = some (.bool nd.tagged) := NB.cell 1
        have n2 : W4.cell? ⟨N, 2, none⟩ = some (.slice a1 nd.pairs.length c1) := NB.cell 2
        have n3 : W4.cell? ⟨N, 3, none⟩ = some (.slice a2 nd.keys.length c2) := NB.cell 3
        have n4 : W4.cell? ⟨N, 4, none⟩ = some (.slice a3 nd.ways.length c3) := NB.cell 4
        have R6 := (H6.row (t := 27) (sz := 1) (n := nd.ways.length) (v := .slice a3 nd.ways.length c3) (us := intC nd.ways) ((l.set i (areP a ar2) ++ [blkP N 36 #[.bool nd.inner, .bool nd.tagged, .slice a1 nd.pairs.length c1, .slice a2 nd.keys.length c2, .slice a3 nd.ways.length c3]]).length + 2) (by rw [List.getElem?_append_right (by omega)]; simp [ndL])).rdv
        have HR6 := Lib.hid R6
        have HH6 := Lib.hid H6
        have HBB := Lib.hid HBW
        have HZ6 := Lib.hid hz6
        clear H6 NB R6 HBW hb6 hc6 hz6 hcap6 rp6 rk6 rn6 rw6 HU c8 z8
        refine wp_region_noPanic ?_
        refine AnyK.start (ks := [12]) (S := fun w' => w'.cell? ⟨N, 0, none⟩ = some (.bool nd.inner) ∧ w'.cell? ⟨N, 1, none⟩ = some (.bool nd.tagged) ∧ w'.cell? ⟨N, 2, none⟩ = some (.slice a1 nd.pairs.length c1) ∧ w'.cell? ⟨N, 3, none⟩ = some (.slice a2 nd.keys.length c2) ∧ w'.cell? ⟨N, 4, none⟩ = some (.slice a3 nd.ways.length c3) ∧ w'.cell? ⟨g6, off6 + pi * 10 + 8, none⟩ = some (.int .u32 ((cnt : Int) + 1))) (by kernel_rfl) ⟨n0, n1, n2, n3, n4, s9⟩ (fun hHeld => ?_)
        refine AnyK.take (i := 0) (v := ?_) rfl (by kernel_rfl) (by kernel_rfl) (by kernel_rfl) (by kernel_rfl) (fun _ _ _ h => h) (Or.inl ⟨by rfl, ?_⟩) (by assumption) ?_
        rotate_left
        focus
          intro w9 hSw
          try dsimp only at hSw
          go_simp
          try with_reducible rfl
        try simp only [Act.put, List.setIfInBounds_toArray, List.set_cons_zero, List.set_cons_succ]
        refine AnyK.take (i := 1) (v := ?_) rfl (by kernel_rfl) (by kernel_rfl) (by kernel_rfl) (by kernel_rfl) (fun _ _ _ h => h) (Or.inl ⟨by rfl, ?_⟩) (by assumption) ?_
        rotate_left
        focus
          intro w9 hSw
          try dsimp only at hSw
          go_simp
          try with_reducible rfl
        try simp only [Act.put, List.setIfInBounds_toArray, List.set_cons_zero, List.set_cons_succ]
        refine AnyK.take (i := 2) (v := ?_) rfl (by kernel_rfl) (by kernel_rfl) (by kernel_rfl) (by kernel_rfl) (fun _ _ _ h => h) (Or.inl ⟨by rfl, ?_⟩) (by assumption) ?_
        rotate_left
        focus
          intro w9 hSw
          try dsimp only at hSw
          go_simp
          try with_reducible rfl
        try simp only [Act.put, List.setIfInBounds_toArray, List.set_cons_zero, List.set_cons_succ]
        refine AnyK.take (i := 3) (v := ?_) rfl (by kernel_rfl) (by kernel_rfl) (by kernel_rfl) (by kernel_rfl) (fun _ _ _ h => h) (Or.inl ⟨by rfl, ?_⟩) (by assumption) ?_
        rotate_left
        focus
          intro w9 hSw
          try dsimp only at hSw
          go_simp
          try with_reducible rfl
        try simp only [Act.put, List.setIfInBounds_toArray, List.set_cons_zero, List.set_cons_succ]
        refine AnyK.take (i := 4) (v := ?_) rfl (by kernel_rfl) (by kernel_rfl) (by kernel_rfl) (by kernel_rfl) (fun _ _ _ h => h) (Or.inl ⟨by rfl, ?_⟩) (by assumption) ?_
        rotate_left
        focus
          intro w9 hSw
          try dsimp only at hSw
          go_simp
          try with_reducible rfl
        try simp only [Act.put, List.setIfInBounds_toArray, List.set_cons_zero, List.set_cons_succ]
        refine AnyK.take (i := 6) (v := ?_) rfl (by kernel_rfl) (by kernel_rfl) (by kernel_rfl) (by kernel_rfl) (fun _ _ _ h => h) (Or.inl ⟨by rfl, ?_⟩) (by assumption) ?_
        rotate_left
        focus
          intro w9 hSw
          try dsimp only at hSw
          go_simp
          try with_reducible rfl
        try simp only [Act.put, List.setIfInBounds_toArray, List.set_cons_zero, List.set_cons_succ]
        refine AnyK.take (i := 7) (v := ?_) rfl (by kernel_rfl) (by kernel_rfl) (by kernel_rfl) (by kernel_rfl) (fun _ _ _ h => h) (Or.inl ⟨by rfl, ?_⟩) (by assumption) ?_
        rotate_left
        focus
          intro w9 hSw
          try dsimp only at hSw
          go_simp
          try with_reducible rfl
        try simp only [Act.put, List.setIfInBounds_toArray, List.set_cons_zero, List.set_cons_succ]
        refine AnyK.take (i := 8) (v := ?_) rfl (by kernel_rfl) (by kernel_rfl) (by kernel_rfl) (by kernel_rfl) (fun _ _ _ h => h) (Or.inl ⟨by rfl, ?_⟩) (by assumption) ?_
        rotate_left
        focus
          intro w9 hSw
          try dsimp only at hSw
          go_simp
          try with_reducible rfl
        try simp only [Act.put, List.setIfInBounds_toArray, List.set_cons_zero, List.set_cons_succ]
        refine AnyK.take (i := 9) (v := ?_) rfl (by kernel_rfl) (by kernel_rfl) (by kernel_rfl) (by kernel_rfl) (fun _ _ _ h => h) (Or.inl ⟨by rfl, ?_⟩) (by assumption) ?_
        rotate_left
        focus
          intro w9 hSw
          try dsimp only at hSw
          go_simp
          try with_reducible rfl
        try simp only [Act.put, List.setIfInBounds_toArray, List.set_cons_zero, List.set_cons_succ]
        refine AnyK.one (i := 5) (by kernel_rfl) rfl (fun K hK => ?_)
        go_simp
        go_at_call 33
        refine (Clone_ref _ _ _ _ (HR6.out.fr (Fr.drew (Fr.refl nob W4)) (fun _ _ _ x => x)) HO.out.2.2 E3).mono ?_
        rintro e x9 ⟨a9, c9, rfl, q9, b9, f9⟩
        have F9 := (Fr.drew (Fr.refl nob W4)).trans f9 (fun _ _ x => x)
        have H9 := HH6.out.drew.pushRow f9 q9 b9
        have HB9 := HBB.out.fr F9 (fun x => x)
        have m0 := F9.cell' n0 (fun x => x)
        have m1 := F9.cell' n1 (fun x => x)
        have m2 := F9.cell' n2 (fun x => x)
        have m3 := F9.cell' n3 (fun x => x)
        have m4 := F9.cell' n4 (fun x => x)
        have t0 := F9.cell' s0 (fun x => x)
        have t1 := F9.cell' s1 (fun x => x)
        have t3 := F9.cell' s3 (fun x => x)
        have t4 := F9.cell' s4 (fun x => x)
        have t5 := F9.cell' s5 (fun x => x)
        have t6 := F9.cell' s6 (fun x => x)
        have t7 := F9.cell' s7 (fun x => x)
        have t8 := F9.cell' s8 (fun x => x)
        have t9 := F9.cell' s9 (fun x => x)
        have t10 := F9.cell' s10 (fun x => x)
        have z0 := F9.froz' s0 (HZ6.out _) (fun x => x)
        have z1 := F9.froz' s1 (HZ6.out _) (fun x => x)
        have z3 := F9.froz' s3 (HZ6.out _) (fun x => x)
        have z4 := F9.froz' s4 (HZ6.out _) (fun x => x)
        have z5 := F9.froz' s5 (HZ6.out _) (fun x => x)
        have z6 := F9.froz' s6 (HZ6.out _) (fun x => x)
        have z7 := F9.froz' s7 (HZ6.out _) (fun x => x)
        have z8 := F9.froz' s8 (HZ6.out _) (fun x => x)
        have z9 := F9.froz' s9 (HZ6.out _) (fun x => x)
        have z10 := F9.froz' s10 (HZ6.out _) (fun x => x)
        refine hK.out _ _ (fun _ => ⟨m0, m1, m2, m3, m4, t9⟩) ?_
        clear hK K
        try simp only [Act.put, List.setIfInBounds_toArray, List.set_cons_zero, List.set_cons_succ]
        have hS9 := And.intro m0 (And.intro m1 (And.intro m2 (And.intro m3 (And.intro m4 t9))))
        have HH9 := Lib.hid H9
        have HBX := Lib.hid HB9
        clear H9 HB9 q9 b9 f9 F9 s0 s1 s3 s4 s5 s6 s7 s8 s9 s10 n0 n1 n2 n3 n4
        refine AnyK.take (i := 10) (v := ?_) rfl (by kernel_rfl) (by kernel_rfl) (by kernel_rfl) (by kernel_rfl) (fun _ _ _ h => h) (Or.inl ⟨by rfl, ?_⟩) (by exact hS9) ?_
        rotate_left
        focus
          intro w9 hSw
          try dsimp only at hSw
          go_simp
          try with_reducible rfl
        try simp only [Act.put, List.setIfInBounds_toArray, List.set_cons_zero, List.set_cons_succ]
        refine AnyK.take (i := 11) (v := ?_) rfl (by kernel_rfl) (by kernel_rfl) (by kernel_rfl) (by kernel_rfl) (fun _ _ _ h => h) (Or.inl ⟨by rfl, ?_⟩) (by exact hS9) ?_
        rotate_left
        focus
          intro w9 hSw
          try dsimp only at hSw
          go_simp
          try with_reducible rfl
        try simp only [Act.put, List.setIfInBounds_toArray, List.set_cons_zero, List.set_cons_succ]
        refine AnyK.one (i := 12) (by kernel_rfl) rfl (fun K hK => ?_)
        go_simp
        refine hK.out _ _ (fun h => absurd (by decide) h) ?_
        clear hK K
        try simp only [Act.put, List.setIfInBounds_toArray, List.set_cons_zero, List.set_cons_succ]
        refine AnyK.done (by kernel_rfl) ?_ _
        refine NoPanic.normal ?_
        go_upto_region 11 with fail
        have hcast : ((cnt + 1 : Nat) : Int) = (cnt : Int) + 1 := by omega
        have H10 := fill_h (s' := newSl nd (cnt + 1)) (nd := nd) (vp := .slice a1 nd.pairs.length c1) (vk := .slice a2 nd.keys.length c2) (vn := .slice a3 nd.ways.length c3) (vw := .slice a9 nd.ways.length c9) i HI2.out.1 HI2.out.2.2 rfl rfl (Heap.mid (m := [blkP N 36 #[.bool nd.inner, .bool nd.tagged, .slice a1 nd.pairs.length c1, .slice a2 nd.keys.length c2, .slice a3 nd.ways.length c3]]) (by rw [← List.append_assoc]; exact HH9.out)) (by rw [HS3.out.2.2]; exact HBX.out)
        rw [List.set_set, EQ.out] at H10
        have HB10 := HBX.out.of_eq (setCells_other (slotC (newSl nd (cnt + 1)) ⟨.slice a1 nd.pairs.length c1, .slice a2 nd.keys.length c2, .slice a3 nd.ways.length c3, .slice a9 nd.ways.length c9⟩) x9 (off6 + pi * 10) a hagne)
        have KK := Lib.hid (And.intro hcast (And.intro H10 HB10))
        clear t0 t1 t3 t4 t5 t6 t7 t8 t9 t10 z0 z1 z3 z4 z5 z6 z7 z8 z9 z10 m0 m1 m2 m3 m4 hS9 hcast H10 HB10 HH9 HBX HBB HH6 HR6 HZ6
        refine wp_seal (fun W => Heap w0 W (l.set i (areP a (ar1.put pi (newSl nd (cnt + 1))))) ∧ Blk W a 78 #[.slice (some ⟨g6, off6, none⟩) ar1.slots.length cap, .slice af3 ar1.free.length cf3, .int .i64 ar1.most, .int .i64 ar1.used, .int .i64 ar1.faults]) KK.out.2 ?_
        rintro W9 ⟨H11, HB11⟩
        have hia9 : (l.set i (areP a (ar1.put pi (newSl nd (cnt + 1)))))[i]? = some (areP a (ar1.put pi (newSl nd (cnt + 1)))) := List.getElem?_set_self hil
        obtain ⟨g9, off9, cap9, cf9, af9, v9, hb9, _, hc9, _, _, _, _⟩ := slot_h H11 i hia9 (p := pi) (s := newSl nd (cnt + 1)) (by simp [Ar.put, q1])
        obtain ⟨rfl, rfl⟩ : g9 = g6 ∧ off9 = off6 := by
          have e1 := HB11.cell 0
          rw [hb9.cell 0] at e1
          simp at e1
          exact ⟨e1.1.1, e1.1.2⟩
        have c8 := hc9 8 (.int .u32 ((cnt + 1 : Nat) : Int)) rfl
        rw [KK.out.1] at c8
        obtain ⟨k3, z3, U9⟩ := used_h H11 i hia9 (ar.used + 1)
        have k4 : W9.cell? ⟨a, 3, none⟩ = some (.int .i64 ar.used) := by rw [← q3]; exact k3
        rw [List.set_set] at U9
        have FIN := Lib.hid U9
        have HOF := Lib.hid (fun w => Of_calls pi ((cnt : Int) + 1) w (by omega) (by omega))
        clear k3 U9 H11 HB11 hia9 hb9 hc9
        go_wp2_with (go_at_call 14; refine (HOF.out _).mono ?_; rintro e w' ⟨rfl, hw⟩; have hw := hw.symm; subst hw)
        go_ret2
        refine ⟨?_, FIN.out⟩
        show Ending.returned (.tuple #[.int .i64 (refOf pi ((cnt : Int) + 1)), .bool true]) = _
        rw [KK.out.1]
end
end Go.Proofs.Ytolkpmbmgiplcaa
