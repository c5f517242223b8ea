/- ThreadEnds: the law's walk. No condition but that what is handed in can be read. -/
import Derived.Test.YtblijgdmfohfcaaWTh1
namespace Go.Proofs.Ytblijgdmfohfcaa
open Go Go.RowKit
set_option linter.unusedVariables false
set_option linter.unusedSimpArgs false
theorem Heap.thPutRow {w0 w : World} {l : List Piece} (h : Heap w0 w l) (i : Nat) {t : TypeId} {sz g off n cap : Nat} {us : List Value} (hi : l[i]? = some (rowP t sz (.slice (some ⟨g, off, none⟩) n cap) n us)) (j : Nat) (hj : j < n * sz) (x : Value) :
    Heap w0 (w.setCell ⟨g, off + j, none⟩ x) (l.set i (rowP t sz (.slice (some ⟨g, off, none⟩) n cap) n (us.set j x))) := by
  obtain ⟨S, h1, hs, U⟩ := h.take i hi
  have hg := h1.2 g rfl
  refine U (S' := S) ((Fr.refl S w).setCell (.inl hg.1) x) ⟨h1.1.put j hj x, fun g' hg' => ?_⟩ (fun k hk => .inl hk)
  obtain rfl : g = g' := by simpa [Value.ownBlock] using hg'
  obtain ⟨c, hc⟩ := hg.2
  exact ⟨hg.1, _, hc.set (off + j) x⟩
/-- A cell, an operation on it. -/
def enPl (ca A B tb : Nat) (pv : Value) : Pl Ce := { F := fun s T => [cellP ca s, blkP B 25 #[.pointer (some ⟨ca, 0, none⟩)], blkP A 22 #[pv], thP tb T], ti := 3, tb := tb, get := fun _ _ => rfl, put := fun _ _ _ => rfl }
def enMk (ca A B tb : Nat) (pv : Value) : MkPl (enPl ca A B tb pv) ca A B pv := { ci := 0, ai := 2, bi := 1, cget := fun _ _ => rfl, cput := fun _ _ _ => rfl, aget := fun _ _ => rfl, bget := fun _ _ => rfl }
theorem rnNext_three (ps : List Tc) (R : Rn) (s : Ce) (h : s.log.length = 3 * R.told.length) : (rnNext ps R s).2.2.log.length = 3 * (rnNext ps R s).2.1.told.length := by
  unfold rnNext
  cases hx : ps[R.at']? with
  | none => exact h
  | some x => simp [ceDone, h]; omega
set_option maxHeartbeats 16000000 in
set_option maxRecDepth 100000 in
theorem ThreadEnds_walk (v : Value) (ps : List Tc) (more : Int) (hmore : 0 ≤ more ∧ more ≤ 255) (w : World) (R0 : RdV w v ps.length 2 (tcC ps)) (hps : ∀ x ∈ ps, x.ok) :
    Calls Try.prog 5 #[v, .int .u8 more] w fun e w' => e = .returned (.bool true) ∧ Below w.heap.size w w' := by
  have hm0 := R0.short
  unfold maxLen at hm0
  obtain ⟨pa, pc, rfl⟩ := R0.len
  have HR := Lib.hid R0
  have HPS := Lib.hid hps
  clear R0 hps
  obtain ⟨f0, f1⟩ := hmore
  go_enter Try.func5, Try.ntmps5
  go_wp2_with fail
  refine (Awake_calls w _ (Fr.refl _ _)).mono ?_
  rintro e w1 ⟨rfl, F1⟩
  by_cases h30 : 20 < ps.length
  · go_wp2_with fail
    go_ret
    exact ⟨rfl, F1.below (Nat.le_refl _) (fun _ x => x.elim)⟩
  have H1 : Heap w w1 [] := (Heap.start w).go F1
  clear F1
  have HM := Lib.hid hm0
  clear hm0
  have H2 : Heap w (w1.alloc (.cells #[.int .i64 0, .slice none 0 0] 28)) [cellP w1.heap.size ⟨0, []⟩] := H1.newRowed 28 2 (ceC ⟨0, []⟩)
  have HH := Lib.hid H2
  clear H1 H2
  go_upto_region 6 with fail
  generalize w1.heap.size = cb at *
  generalize w1.alloc (.cells #[.int .i64 0, .slice none 0 0] 28) = w2 at *
  go_wp2_with fail
  refine (Make_h HH.out cb pa ps.length pc).mono ?_
  rintro e w3 ⟨tb, A, B, rfl, H3⟩
  clear HH
  have H4 : Heap w w3 ((enPl cb A B tb (.slice pa ps.length pc)).F ⟨0, []⟩ (newTh (mkV A B)) ++ []) := H3
  have HH := Lib.hid H4
  clear H3 H4
  have RI := Lib.hid (RunI.start ps)
  go_wp2_with fail
  go_loopw [25] (fun i wr => ∃ (k : Nat) (s : Ce) (T : Th) (R : Rn) (Y : List Piece), i = .int .i64 (k : Nat) ∧ k ≤ ps.length + 1 ∧ Hid (T.work = mkV A B ∧ T.log = R.told) ∧ Hid (RunI ps R) ∧ Hid (s.log.length = 3 * R.told.length ∧ R.told.length ≤ k ∧ R.at' ≤ 2 * k) ∧ Hid (T.done = false → Y = [] ∧ k ≤ R.at' ∧ (R.at' < ps.length ∨ k = 0)) ∧ Hid (T.done = true → ∃ a c, T.out = .slice a R.told.length c ∧ Y = [rowP 2 1 (.slice a R.told.length c) R.told.length (intC R.told)]) ∧ Hid (Heap w wr ((enPl cb A B tb (.slice pa ps.length pc)).F s T ++ Y))) (fun i _ => ps.length + 2 - (intOf i).toNat)
  case atStart => exact ⟨0, ⟨0, []⟩, newTh (mkV A B), ⟨0, []⟩, [], rfl, Nat.zero_le _, Lib.hid ⟨rfl, rfl⟩, RI, Lib.hid ⟨rfl, Nat.le_refl _, Nat.le_refl _⟩, Lib.hid (fun _ => ⟨rfl, Nat.zero_le _, .inr rfl⟩), Lib.hid (fun x => by cases x), HH⟩
  case round =>
    clear HH RI
    obtain ⟨k, s, T, R, Y, rfl, hk, HT, RI, HB, HD0, HD1, HH⟩ := hrel
    by_cases hlt : k < ps.length + 1
    · cases hTd : T.done with
      | true =>
        have C := Lib.hid (Step_over HH.out 3 (tb := tb) (T := T) rfl hTd)
        have HTD := Lib.hid hTd
        clear hTd
        go_wp2_with fail
        refine C.out.mono ?_
        rintro e w' ⟨rfl, hw⟩
        have hw := hw.symm
        subst hw
        go_wp2_with fail
        have hb := HB.out
        refine ⟨⟨k + 1, s, T, R, Y, by go_num, by omega, HT, RI, Lib.hid ⟨hb.1, by omega, by omega⟩, Lib.hid (fun x => by rw [HTD.out] at x; cases x), HD1, HH⟩, by simp [intOf]; omega⟩
      | false =>
        obtain ⟨hY, h1, h2⟩ := HD0.out hTd
        obtain ⟨t1, t3⟩ := HT.out
        obtain ⟨b1, b2, b3⟩ := HB.out
        have hH := HH.out
        rw [hY, List.append_nil] at hH
        have C := Step_mk (enMk cb A B tb (.slice pa ps.length pc)) hH t1 hTd t3 RI.out HPS.out HR.out (by omega) (by omega) (by omega)
        have RI' := Lib.hid (RI.out.next s)
        have hfew := rnNext_few ps R s
        have h3 := rnNext_three ps R s b1
        have hat : (rnNext ps R s).1 = false → (rnNext ps R s).2.1.at' < ps.length ∧ (rnNext ps R s).2.1.told.length = R.told.length + 1 ∧ R.at' + 1 ≤ (rnNext ps R s).2.1.at' := rnNext_at
        generalize rnNext ps R s = r at *
        obtain ⟨d, R', s'⟩ := r
        dsimp only at C RI' hfew hat h3
        have CC := Lib.hid C
        have HF := Lib.hid (And.intro hfew (And.intro h3 (And.intro hat (And.intro h1 (And.intro b2 b3)))))
        clear C hfew hat h3 HH hH hY t1 t3 b1 b2 b3 h1 h2 HD0 HD1 hTd
        change Hid (Calls Try.prog 12 #[.pointer (some ⟨tb, 0, none⟩)] wr _) at CC
        go_wp2_with fail
        refine CC.out.mono ?_
        rintro e z1 ⟨T', Y', rfl, H1, hTw, hTl, hTd, hY0, hY1⟩
        have HX := Lib.hid (And.intro hTw (And.intro hTl (And.intro hTd (And.intro hY0 hY1))))
        have HH1 := Lib.hid H1
        clear H1 hTw hTl hTd hY0 hY1 CC
        go_wp2_with fail
        obtain ⟨hTw, hTl, hTd, hY0, hY1⟩ := HX.out
        obtain ⟨hfew, h3, hat, h1, b2, b3⟩ := HF.out
        refine ⟨⟨k + 1, s', T', R', Y', by go_num, by omega, Lib.hid ⟨hTw, hTl⟩, RI', Lib.hid ⟨h3, by omega, by omega⟩, Lib.hid (fun x => ?_), Lib.hid (fun x => hY1 (hTd.symm.trans x)), HH1⟩, by simp [intOf]; omega⟩
        have hd : d = false := hTd.symm.trans x
        have := hat hd
        exact ⟨hY0 hd, by omega, .inl (by omega)⟩
    · cases hTd : T.done with
      | false =>
        have := HD0.out hTd
        omega
      | true =>
        obtain ⟨oa, oc, hout, rfl⟩ := HD1.out hTd
        obtain ⟨t1, hTl⟩ := HT.out
        obtain ⟨b1, b2, b3⟩ := HB.out
        obtain ⟨la, lc, HA0⟩ := HH.out.openR 0 (t := 28) (b := cb) (cs := ceC s) (et := 2) (n := s.log.length) (us := s.log.map (Value.int .i64)) rfl
        have HA1 : Heap w wr ([nilP, blkP B 25 #[.pointer (some ⟨cb, 0, none⟩)], blkP A 22 #[.slice pa ps.length pc], thP tb T, rowP 2 1 (.slice oa R.told.length oc) R.told.length (intC R.told), blkP cb 28 (ceC s (.slice la s.log.length lc)), rowP 2 1 (.slice la s.log.length lc) s.log.length (s.log.map (Value.int .i64))] : List Piece) := HA0
        have q0 : wr.drew.cell? ⟨cb, 1, none⟩ = some (.slice la s.log.length lc) := (HA1.blk 5 rfl).cell 1
        have HD := Lib.hid HA1.drew
        have HLN : Hid (R.told.length ≤ 1000000) := Lib.hid (by omega)
        have HB3 := Lib.hid b1
        have hkt : R.told.length ≤ 30 := by omega
        have hkl : s.log.length ≤ 100 := by omega
        obtain ⟨m, hm⟩ : ∃ m : Nat, more % 8 = (m : Int) := ⟨(more % 8).toNat, by omega⟩
        have hm8 : m < 8 := by omega
        clear HA0 HA1 HH HD0 HD1 HB b1 b2 b3
        go_upto_region 11 with fail
        have HLT := Lib.hid hlt
        clear hlt
        refine wp_region_noPanic ?_
        refine AnyK.start (ks := []) (S := fun w' => w'.cell? ⟨cb, 1, none⟩ = some (.slice la s.log.length lc)) (by kernel_rfl) (by exact q0) (fun _ => ?_)
        refine AnyK.take (i := 0) (v := ?_) rfl (by kernel_rfl) (by kernel_rfl) (by kernel_rfl) (by kernel_rfl) (fun _ _ _ h => h) (Or.inl ⟨by rfl, ?_⟩) (by exact q0) ?_
        rotate_left
        focus
          intro w9 hSw
          try dsimp only at hSw
          go_simp
          try with_reducible rfl
        try simp only [Act.put, List.setIfInBounds_toArray, List.set_cons_zero, List.set_cons_succ]
        refine AnyK.take (i := 2) (v := ?_) rfl (by kernel_rfl) (by kernel_rfl) (by kernel_rfl) (by kernel_rfl) (fun _ _ _ h => h) (Or.inl ⟨by rfl, ?_⟩) (by exact q0) ?_
        rotate_left
        focus
          intro w9 hSw
          try dsimp only at hSw
          go_simp
          try with_reducible rfl
        try simp only [Act.put, List.setIfInBounds_toArray, List.set_cons_zero, List.set_cons_succ]
        refine AnyK.take (i := 4) (v := ?_) rfl (by kernel_rfl) (by kernel_rfl) (by kernel_rfl) (by kernel_rfl) (fun _ _ _ h => h) (Or.inl ⟨by rfl, ?_⟩) (by exact q0) ?_
        rotate_left
        focus
          intro w9 hSw
          try dsimp only at hSw
          go_simp
          try with_reducible rfl
        try simp only [Act.put, List.setIfInBounds_toArray, List.set_cons_zero, List.set_cons_succ]
        refine AnyK.take (i := 5) (v := ?_) rfl (by kernel_rfl) (by kernel_rfl) (by kernel_rfl) (by kernel_rfl) (fun _ _ _ h => h) (Or.inl ⟨by rfl, ?_⟩) (by exact q0) ?_
        rotate_left
        focus
          intro w9 hSw
          try dsimp only at hSw
          go_simp
          try with_reducible rfl
        try simp only [Act.put, List.setIfInBounds_toArray, List.set_cons_zero, List.set_cons_succ]
        refine AnyK.take (i := 6) (v := ?_) rfl (by kernel_rfl) (by kernel_rfl) (by kernel_rfl) (by kernel_rfl) (fun _ _ _ h => h) (Or.inl ⟨by rfl, ?_⟩) (by exact q0) ?_
        rotate_left
        focus
          intro w9 hSw
          try dsimp only at hSw
          go_simp
          try with_reducible rfl
        try simp only [Act.put, List.setIfInBounds_toArray, List.set_cons_zero, List.set_cons_succ]
        refine AnyK.take (i := 7) (v := ?_) rfl (by kernel_rfl) (by kernel_rfl) (by kernel_rfl) (by kernel_rfl) (fun _ _ _ h => h) (Or.inl ⟨by rfl, ?_⟩) (by exact q0) ?_
        rotate_left
        focus
          intro w9 hSw
          try dsimp only at hSw
          go_simp
          try with_reducible rfl
        try simp only [Act.put, List.setIfInBounds_toArray, List.set_cons_zero, List.set_cons_succ]
        refine AnyK.take (i := 8) (v := ?_) rfl (by kernel_rfl) (by kernel_rfl) (by kernel_rfl) (by kernel_rfl) (fun _ _ _ h => h) (Or.inl ⟨by rfl, ?_⟩) (by exact q0) ?_
        rotate_left
        focus
          intro w9 hSw
          try dsimp only at hSw
          go_simp
          try with_reducible rfl
        try simp only [Act.put, List.setIfInBounds_toArray, List.set_cons_zero, List.set_cons_succ]
        refine AnyK.one (i := 1) (by kernel_rfl) rfl (fun K9 hK9 => ?_)
        go_simp
        refine (Steps_h HD.out 3 (tb := tb) (T := T) rfl).mono ?_
        rw [hTl]
        rintro e w' ⟨rfl, hw⟩
        have hw := hw.symm
        subst hw
        refine hK9.out _ _ (fun _ => q0) ?_
        clear hK9 K9
        try simp only [Act.put, List.setIfInBounds_toArray, List.set_cons_zero, List.set_cons_succ]
        refine AnyK.one (i := 3) (by kernel_rfl) rfl (fun K9 hK9 => ?_)
        go_simp
        refine (Out_some HD.out 3 (tb := tb) (T := T) rfl hTd oa R.told.length oc hout R.told (HD.out.row 4 rfl).rdv HLN.out).mono ?_
        rintro e z2 ⟨o2, c2, rfl, H2⟩
        have q2 : z2.cell? ⟨cb, 1, none⟩ = some (.slice la s.log.length lc) := (H2.blk 5 rfl).cell 1
        refine hK9.out _ _ (fun _ => q2) ?_
        clear hK9 K9
        try simp only [Act.put, List.setIfInBounds_toArray, List.set_cons_zero, List.set_cons_succ]
        refine AnyK.one (i := 9) (by kernel_rfl) rfl (fun K9 hK9 => ?_)
        go_simp
        refine hK9.out _ _ (fun _ => q2) ?_
        clear hK9 K9
        try simp only [Act.put, List.setIfInBounds_toArray, List.set_cons_zero, List.set_cons_succ]
        refine AnyK.one (i := 10) (by kernel_rfl) rfl (fun K9 hK9 => ?_)
        go_simp
        refine hK9.out _ _ (fun _ => q2) ?_
        clear hK9 K9
        try simp only [Act.put, List.setIfInBounds_toArray, List.set_cons_zero, List.set_cons_succ]
        refine AnyK.one (i := 11) (by kernel_rfl) rfl (fun K9 hK9 => ?_)
        go_simp
        refine hK9.out _ _ (fun _ => q2) ?_
        clear hK9 K9
        try simp only [Act.put, List.setIfInBounds_toArray, List.set_cons_zero, List.set_cons_succ]
        refine AnyK.done (by kernel_rfl) ?_ _
        refine NoPanic.normal ?_
        have HQ : Heap w z2 ([nilP, blkP B 25 #[.pointer (some ⟨cb, 0, none⟩)], blkP A 22 #[.slice pa ps.length pc], thP tb T, rowP 2 1 (.slice oa R.told.length oc) R.told.length (intC R.told), blkP cb 28 (ceC s (.slice la s.log.length lc)), rowP 2 1 (.slice la s.log.length lc) s.log.length (s.log.map (Value.int .i64)), rowP 2 1 (.slice o2 R.told.length c2) R.told.length (intC R.told)] : List Piece) := H2
        have HH := Lib.hid HQ
        clear H2 HQ HD q0 q2
        go_wp2_with fail
        go_loopw [41] (fun i wr => ∃ j : Nat, i = .int .u8 (j : Nat) ∧ j ≤ m ∧ wr = z2) (fun i _ => m - (intOf i).toNat)
        case atStart => exact ⟨0, rfl, Nat.zero_le _, rfl⟩
        case round =>
          obtain ⟨j, rfl, hj, hw⟩ := hrel
          have hw := hw.symm
          subst hw
          by_cases hlt : j < m
          · have C := Lib.hid (Step_over HH.out 3 (tb := tb) (T := T) rfl hTd)
            have DN := Lib.hid (Done_h HH.out 3 (tb := tb) (T := T) rfl 33 #[] #[.pointer (some ⟨A, 0, none⟩), .pointer (some ⟨B, 0, none⟩)] t1)
            have DN2 : Hid (Calls Try.prog 14 #[.pointer (some ⟨tb, 0, none⟩)] z2 fun e w' => e = .returned (.bool true) ∧ w' = z2) := by
              have := DN.out
              rw [hTd] at this
              exact this
            clear DN
            go_wp2_with fail
            refine C.out.mono ?_
            rintro e w' ⟨rfl, hw⟩
            have hw := hw.symm
            subst hw
            go_wp2_with fail
            refine DN2.out.mono ?_
            rintro e w' ⟨rfl, hw⟩
            have hw := hw.symm
            subst hw
            go_wp2_with fail
            exact ⟨⟨j + 1, by go_num, by omega, by trivial⟩, by simp [intOf]; omega⟩
          · have O1 := Lib.hid (Out_some HH.out 3 (tb := tb) (T := T) rfl hTd oa R.told.length oc hout R.told (HH.out.row 4 rfl).rdv HLN.out)
            go_wp2_with fail
            refine O1.out.mono ?_
            rintro e z3 ⟨o3, c3, rfl, H3⟩
            have H3' : Heap w z3 ([nilP, blkP B 25 #[.pointer (some ⟨cb, 0, none⟩)], blkP A 22 #[.slice pa ps.length pc], thP tb T, rowP 2 1 (.slice oa R.told.length oc) R.told.length (intC R.told), blkP cb 28 (ceC s (.slice la s.log.length lc)), rowP 2 1 (.slice la s.log.length lc) s.log.length (s.log.map (Value.int .i64)), rowP 2 1 (.slice o2 R.told.length c2) R.told.length (intC R.told), rowP 2 1 (.slice o3 R.told.length c3) R.told.length (intC R.told)] : List Piece) := H3
            have HH3 := Lib.hid H3'
            clear H3 H3' O1 HH
            go_wp2_with fail
            go_loopw [56] (fun i wr => ∃ (j : Nat) (zs : List Int), i = .int .i64 (j : Nat) ∧ j ≤ R.told.length ∧ zs.length = R.told.length ∧ Hid (Heap w wr ([nilP, blkP B 25 #[.pointer (some ⟨cb, 0, none⟩)], blkP A 22 #[.slice pa ps.length pc], thP tb T, rowP 2 1 (.slice oa R.told.length oc) R.told.length (intC R.told), blkP cb 28 (ceC s (.slice la s.log.length lc)), rowP 2 1 (.slice la s.log.length lc) s.log.length (s.log.map (Value.int .i64)), rowP 2 1 (.slice o2 R.told.length c2) R.told.length (intC R.told), rowP 2 1 (.slice o3 R.told.length c3) R.told.length (intC zs)] : List Piece))) (fun i _ => R.told.length - (intOf i).toNat)
            case atStart => exact ⟨0, R.told, rfl, Nat.zero_le _, rfl, HH3⟩
            case round =>
              clear HH3
              obtain ⟨j, zs, rfl, hj, hz, HH⟩ := hrel
              by_cases hlt : j < R.told.length
              · obtain ⟨y, hy⟩ : ∃ y, zs[j]? = some y := ⟨_, List.getElem?_eq_getElem (by omega)⟩
                obtain ⟨g, off, cur, rfl, hb, hcap, hat⟩ := (HH.out.row 8 rfl).at (by omega)
                have y1 : wr.cell? ⟨g, off + j, none⟩ = some (.int .i64 y) := hat _ _ (intC_get' _ _ _ hy)
                have yz : wr.frozen? ⟨g, off + j, none⟩ = false := hb.froz _
                have G := HH.out.thPutRow 8 rfl j (by omega) (.int .i64 (wrap64 (y - 1)))
                have e1 : (intC zs).set j (.int .i64 (wrap64 (y - 1))) = intC (zs.set j (wrap64 (y - 1))) := by simp [intC, List.map_set]
                rw [e1] at G
                have GG : Hid (Heap w (wr.setCell ⟨g, off + j, none⟩ (.int .i64 (wrap64 (y - 1)))) ([nilP, blkP B 25 #[.pointer (some ⟨cb, 0, none⟩)], blkP A 22 #[.slice pa ps.length pc], thP tb T, rowP 2 1 (.slice oa R.told.length oc) R.told.length (intC R.told), blkP cb 28 (ceC s (.slice la s.log.length lc)), rowP 2 1 (.slice la s.log.length lc) s.log.length (s.log.map (Value.int .i64)), rowP 2 1 (.slice o2 R.told.length c2) R.told.length (intC R.told), rowP 2 1 (.slice (some ⟨g, off, none⟩) R.told.length c3) R.told.length (intC (zs.set j (wrap64 (y - 1))))] : List Piece)) := Lib.hid G
                clear G e1 hat hb hy HH
                have hzl : (zs.set j (wrap64 (y - 1))).length = R.told.length := by simpa using hz
                have HZ := Lib.hid hzl
                clear hzl
                go_wp2_with fail
                refine ⟨⟨j + 1, _, by go_num, by omega, HZ.out, GG⟩, by simp [intOf]; omega⟩
              · have DN := Done_h HH.out 3 (tb := tb) (T := T) rfl 33 #[] #[.pointer (some ⟨A, 0, none⟩), .pointer (some ⟨B, 0, none⟩)] t1
                rw [hTd] at DN
                have ST := Steps_h HH.out 3 (tb := tb) (T := T) rfl
                rw [hTl] at ST
                have O1 := Lib.hid (Out_some HH.out 3 (tb := tb) (T := T) rfl hTd oa R.told.length oc hout R.told (HH.out.row 4 rfl).rdv HLN.out)
                have k1 : wr.cell? ⟨cb, 1, none⟩ = some (.slice la s.log.length lc) := (HH.out.blk 5 rfl).cell 1
                have DD := Lib.hid DN
                have SS := Lib.hid ST
                have e3 : (3 : Int) * (R.told.length : Int) = (s.log.length : Int) := by have := HB3.out; omega
                clear DN ST
                go_wp2_with fail
                refine DD.out.mono ?_
                rintro e w' ⟨rfl, hw⟩
                have hw := hw.symm
                subst hw
                go_wp2_with fail
                refine SS.out.mono ?_
                rintro e w' ⟨rfl, hw⟩
                have hw := hw.symm
                subst hw
                go_wp2_with fail
                refine O1.out.mono ?_
                rintro e z4 ⟨o4, c4, rfl, H4⟩
                have SM := Lib.hid (same_yes _ _ R.told _ (H4.row 9 rfl).rdv (H4.row 7 rfl).rdv)
                go_wp2_with fail
                refine SM.out.mono ?_
                rintro e z5 ⟨rfl, F5⟩
                go_wp2_with fail
                go_ret
                exact ⟨rfl, (H4.go F5).below⟩
end Go.Proofs.Ytblijgdmfohfcaa
