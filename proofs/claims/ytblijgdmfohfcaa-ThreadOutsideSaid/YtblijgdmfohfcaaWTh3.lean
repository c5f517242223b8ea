/- ThreadOutside: the law's walk. No condition but that what is handed in can be read. -/
import Derived.Test.YtblijgdmfohfcaaWTh1
import Derived.Test.YtblijgdmfohfcaaThM
namespace Go.Proofs.Ytblijgdmfohfcaa
open Go Go.RowKit
set_option linter.unusedVariables false
set_option linter.unusedSimpArgs false
/-- Two cells, an operation on the first one, a runner, a number that stays 0. -/
def ouPl (ca cb A B tb rb nb : Nat) (pv : Value) (sb : Ce) (R : Rn) : Pl Ce := { F := fun s T => [cellP ca s, cellP cb sb, blkP B 25 #[.pointer (some ⟨ca, 0, none⟩)], blkP A 22 #[pv], thP tb T, runP rb pv R, blkP nb 3 #[.int .i64 0]], ti := 4, tb := tb, get := fun _ _ => rfl, put := fun _ _ _ => rfl }
def ouMk (ca cb A B tb rb nb : Nat) (pv : Value) (sb : Ce) (R : Rn) : MkPl (ouPl ca cb A B tb rb nb pv sb R) ca A B pv := { ci := 0, ai := 3, bi := 2, cget := fun _ _ => rfl, cput := fun _ _ _ => rfl, aget := fun _ _ => rfl, bget := fun _ _ => rfl }
set_option maxHeartbeats 16000000 in
set_option maxRecDepth 100000 in
theorem ThreadOutside_walk (v : Value) (ps : List Tc) (w : World) (R0 : RdV w v ps.length 2 (tcC ps)) (hps : ∀ x ∈ ps, x.ok) :
    Calls Try.prog 8 #[v] w fun e w' => e = .returned (.bool true) ∧ Below w.heap.size w w' := by
  have hm0 := R0.short
  unfold maxLen at hm0
  obtain ⟨pa, pc, rfl⟩ := R0.len
  have HR := Lib.hid R0
  have HPS := Lib.hid hps
  clear R0 hps
  have hmf : ∀ (fn : Fn) (first cap : Array Value) (z : World), (Instr.makeFunc fn first cap).run Try.prog z = .ok (.func fn first cap) z := fun _ _ _ _ => rfl
  go_enter Try.func8, Try.ntmps8
  go_wp2_with fail
  refine (Awake_calls w _ (Fr.refl _ _)).mono ?_
  rintro e w1 ⟨rfl, F1⟩
  by_cases h30 : 20 < ps.length
  · go_wp2_with fail
    go_ret
    exact ⟨rfl, F1.below (Nat.le_refl _) (fun _ x => x.elim)⟩
  have H1 : Heap w w1 [] := (Heap.start w).go F1
  clear F1
  have HM := Lib.hid hm0
  clear hm0
  have H2 := (H1.newRowed 28 2 (ceC ⟨0, []⟩)).newRowed 28 2 (ceC ⟨0, []⟩)
  have hs : (w1.alloc (.cells (ceC ⟨0, []⟩ (.slice none 0 0)) 28)).heap.size = w1.heap.size + 1 := by simp
  rw [hs] at H2
  have H2 : Heap w ((w1.alloc (.cells #[.int .i64 0, .slice none 0 0] 28)).alloc (.cells #[.int .i64 0, .slice none 0 0] 28)) [cellP w1.heap.size ⟨0, []⟩, cellP (w1.heap.size + 1) ⟨0, []⟩] := H2
  have HH := Lib.hid H2
  clear H1 H2 hs
  go_upto_region 6 with fail
  generalize hca : w1.heap.size = ca at *
  generalize hcb : ca + 1 = cb at *
  clear hca hcb
  generalize (w1.alloc (.cells #[.int .i64 0, .slice none 0 0] 28)).alloc (.cells #[.int .i64 0, .slice none 0 0] 28) = w2 at *
  go_wp2_with fail
  refine (Make_h HH.out ca pa ps.length pc).mono ?_
  rintro e w3 ⟨tb, A, B, rfl, H3⟩
  clear HH
  have H4 := (H3.newRowed 33 2 (rnC (.slice pa ps.length pc) ⟨0, []⟩)).alloc 3 #[.int .i64 0]
  have hs : (w3.alloc (.cells (rnC (.slice pa ps.length pc) ⟨0, []⟩ (.slice none 0 0)) 33)).heap.size = w3.heap.size + 1 := by simp
  rw [hs] at H4
  have H5 : Heap w ((w3.alloc (.cells #[.slice pa ps.length pc, .int .i64 0, .slice none 0 0] 33)).alloc (.cells #[.int .i64 0] 3)) ((ouPl ca cb A B tb w3.heap.size (w3.heap.size + 1) (.slice pa ps.length pc) ⟨0, []⟩ ⟨0, []⟩).F ⟨0, []⟩ (newTh (mkV A B)) ++ []) := H4
  have HH := Lib.hid H5
  clear H3 H4 H5 hs
  go_upto_region 8 with fail
  generalize hrb : w3.heap.size = rb at *
  generalize hnb : rb + 1 = nb at *
  clear hrb hnb
  generalize (w3.alloc (.cells #[.slice pa ps.length pc, .int .i64 0, .slice none 0 0] 33)).alloc (.cells #[.int .i64 0] 3) = w4 at *
  have RI := Lib.hid (RunI.start ps)
  go_wp2_with fail
  go_loopw [26] (fun i wr => ∃ (k : Nat) (s : Ce) (T : Th) (R : Rn) (Y : List Piece), i = .int .i64 (k : Nat) ∧ k ≤ ps.length + 2 ∧ Hid (T.work = mkV A B ∧ T.log = R.told ∧ T.inn = false) ∧ Hid (RunI ps R) ∧ Hid (s.log.length ≤ 3 * k ∧ R.told.length ≤ k ∧ R.at' ≤ 2 * k) ∧ Hid (T.done = false → Y = [] ∧ k ≤ R.at' ∧ (R.at' < ps.length ∨ k = 0)) ∧ Hid (T.done = true → ∃ a c, T.out = .slice a R.told.length c ∧ Y = [rowP 2 1 (.slice a R.told.length c) R.told.length (intC R.told)]) ∧ Hid (Heap w wr ((ouPl ca cb A B tb rb nb (.slice pa ps.length pc) s R).F s T ++ Y))) (fun i _ => ps.length + 3 - (intOf i).toNat)
  case atStart => exact ⟨0, ⟨0, []⟩, newTh (mkV A B), ⟨0, []⟩, [], rfl, Nat.zero_le _, Lib.hid ⟨rfl, rfl, rfl⟩, RI, Lib.hid ⟨Nat.zero_le _, Nat.le_refl _, Nat.le_refl _⟩, Lib.hid (fun _ => ⟨rfl, Nat.zero_le _, .inr rfl⟩), Lib.hid (fun x => by cases x), HH⟩
  case round =>
    clear HH RI
    obtain ⟨k, s, T, R, Y, rfl, hk, HT, RI, HB, HD0, HD1, HH⟩ := hrel
    by_cases hlt : k < ps.length + 2
    · have DO := Lib.hid (fun f first cap => Do_outside HH.out 4 (tb := tb) (T := T) rfl HT.out.2.2 f first cap)
      have AK := Lib.hid (fun f first cap => Ask_outside HH.out 4 (tb := tb) (T := T) rfl HT.out.2.2 f first cap)
      go_wp2_with fail
      refine (DO.out _ _ _).mono ?_
      rintro e w' ⟨rfl, hw⟩
      have hw := hw.symm
      subst hw
      go_wp2_with fail
      refine (AK.out _ _ _).mono ?_
      rintro e z0 ⟨rfl, F0⟩
      have HZ := Lib.hid (HH.out.go F0)
      have kn : z0.cell? ⟨nb, 0, none⟩ = some (.int .i64 0) := (HZ.out.blk 6 rfl).cell 0
      have DN := Done_h HZ.out 4 (tb := tb) (T := T) rfl 33 #[] #[.pointer (some ⟨A, 0, none⟩), .pointer (some ⟨B, 0, none⟩)] HT.out.1
      clear HH DO AK F0
      cases hTd : T.done with
      | true =>
        rw [hTd] at DN
        have DD := Lib.hid DN
        have HTD := Lib.hid hTd
        clear hTd DN
        go_wp2_with fail
        refine DD.out.mono ?_
        rintro e w' ⟨rfl, hw⟩
        have hw := hw.symm
        subst hw
        go_wp2_with fail
        have hb := HB.out
        refine ⟨⟨k + 1, s, T, R, Y, by go_num, by omega, HT, RI, Lib.hid ⟨by omega, by omega, by omega⟩, Lib.hid (fun x => by rw [HTD.out] at x; cases x), HD1, HZ⟩, by simp [intOf]; omega⟩
      | false =>
        rw [hTd] at DN
        have DD := Lib.hid DN
        obtain ⟨hY, h1, h2⟩ := HD0.out hTd
        obtain ⟨t1, t3, t4⟩ := HT.out
        obtain ⟨b1, b2, b3⟩ := HB.out
        have hH := HZ.out
        rw [hY, List.append_nil] at hH
        have CS := Step_mkI (ouMk ca cb A B tb rb nb (.slice pa ps.length pc) s R) hH t1 hTd t3 RI.out HPS.out HR.out (by omega) (by omega) (by omega)
        have RI' := Lib.hid (RI.out.next s)
        have hfew := rnNext_few ps R s
        have NXT := fun (l : List Piece) (z : World) (hz : Heap w z l) (h5 : l[5]? = some (runP rb (.slice pa ps.length pc) R)) (h1 : l[1]? = some (cellP cb s)) => Next_h hz 5 1 (by decide) (.slice pa ps.length pc) h5 h1 ps HPS.out HR.out (by omega) (by omega) (by omega) (by omega)
        have hat : (rnNext ps R s).1 = false → (rnNext ps R s).2.1.at' < ps.length ∧ (rnNext ps R s).2.1.told.length = R.told.length + 1 ∧ R.at' + 1 ≤ (rnNext ps R s).2.1.at' := rnNext_at
        generalize rnNext ps R s = r at *
        obtain ⟨d, R', s'⟩ := r
        dsimp only at CS RI' hfew hat NXT
        have CC := Lib.hid CS
        have NN := Lib.hid NXT
        have HF := Lib.hid (And.intro hfew (And.intro hat (And.intro h1 (And.intro b1 (And.intro b2 b3)))))
        clear CS NXT hfew hat hH hY t1 t3 t4 b1 b2 b3 h1 h2 HD0 HD1 hTd DN HZ
        change Hid (Calls Try.prog 12 #[.pointer (some ⟨tb, 0, none⟩)] z0 _) at CC
        go_wp2_with fail
        refine DD.out.mono ?_
        rintro e w' ⟨rfl, hw⟩
        have hw := hw.symm
        subst hw
        go_wp2_with fail
        refine CC.out.mono ?_
        rintro e z1 ⟨T', Y', rfl, H1, hTw, hTl, hTd, hTi, hY0, hY1⟩
        have HX := Lib.hid (And.intro hTw (And.intro hTl (And.intro hTd (And.intro hTi (And.intro hY0 hY1)))))
        have NX := Lib.hid (NN.out _ z1 H1 rfl rfl)
        clear H1 hTw hTl hTd hTi hY0 hY1 CC NN DD
        go_wp2_with fail
        refine NX.out.mono ?_
        rintro e z2 ⟨rfl, H2⟩
        have HH2 : Hid (Heap w z2 ((ouPl ca cb A B tb rb nb (.slice pa ps.length pc) s' R').F s' T' ++ Y')) := Lib.hid H2
        clear H2 NX
        go_wp2_with fail
        obtain ⟨hTw, hTl, hTd, hTi, hY0, hY1⟩ := HX.out
        obtain ⟨hfew, hat, h1, b1, b2, b3⟩ := HF.out
        refine ⟨⟨k + 1, s', T', R', Y', by go_num, by omega, Lib.hid ⟨hTw, hTl, hTi⟩, RI', Lib.hid ⟨by omega, by omega, by omega⟩, Lib.hid (fun x => ?_), Lib.hid (fun x => hY1 (hTd.symm.trans x)), HH2⟩, by simp [intOf]; omega⟩
        have hd : d = false := hTd.symm.trans x
        have := hat hd
        exact ⟨hY0 hd, by omega, .inl (by omega)⟩
    · cases hTd : T.done with
      | false =>
        have := HD0.out hTd
        omega
      | true =>
        obtain ⟨oa, oc, hout, rfl⟩ := HD1.out hTd
        obtain ⟨t1, hTl, t4⟩ := HT.out
        obtain ⟨b1, b2, b3⟩ := HB.out
        obtain ⟨la, lc, HA0⟩ := HH.out.openR 0 (t := 28) (b := ca) (cs := ceC s) (et := 2) (n := s.log.length) (us := s.log.map (Value.int .i64)) rfl
        obtain ⟨lb, lbc, HA1⟩ := HA0.openR 1 (t := 28) (b := cb) (cs := ceC s) (et := 2) (n := s.log.length) (us := s.log.map (Value.int .i64)) rfl
        obtain ⟨lr, lrc, HA2⟩ := HA1.openR 5 (t := 33) (b := rb) (cs := rnC (.slice pa ps.length pc) R) (et := 2) (n := R.told.length) (us := R.told.map (Value.int .i64)) rfl
        have HA3 : Heap w wr ([nilP, nilP, blkP B 25 #[.pointer (some ⟨ca, 0, none⟩)], blkP A 22 #[.slice pa ps.length pc], thP tb T, nilP, blkP nb 3 #[.int .i64 0], rowP 2 1 (.slice oa R.told.length oc) R.told.length (intC R.told), blkP ca 28 (ceC s (.slice la s.log.length lc)), rowP 2 1 (.slice la s.log.length lc) s.log.length (s.log.map (Value.int .i64)), blkP cb 28 (ceC s (.slice lb s.log.length lbc)), rowP 2 1 (.slice lb s.log.length lbc) s.log.length (s.log.map (Value.int .i64)), blkP rb 33 (rnC (.slice pa ps.length pc) R (.slice lr R.told.length lrc)), rowP 2 1 (.slice lr R.told.length lrc) R.told.length (R.told.map (Value.int .i64))] : List Piece) := HA2
        have q0 : wr.drew.cell? ⟨ca, 1, none⟩ = some (.slice la s.log.length lc) ∧ wr.drew.cell? ⟨cb, 1, none⟩ = some (.slice lb s.log.length lbc) ∧ wr.drew.cell? ⟨rb, 2, none⟩ = some (.slice lr R.told.length lrc) := ⟨(HA3.blk 8 rfl).cell 1, (HA3.blk 10 rfl).cell 1, (HA3.blk 12 rfl).cell 2⟩
        have HD := Lib.hid HA3.drew
        have HLN : Hid (R.told.length ≤ 1000000) := Lib.hid (by omega)
        have hkt : R.told.length ≤ 30 := by omega
        have DN0 := Done_h HD.out 4 (tb := tb) (T := T) rfl 33 #[] #[.pointer (some ⟨A, 0, none⟩), .pointer (some ⟨B, 0, none⟩)] t1
        rw [hTd] at DN0
        have DN := Lib.hid DN0
        have ST0 := Steps_h HD.out 4 (tb := tb) (T := T) rfl
        rw [hTl] at ST0
        have ST := Lib.hid ST0
        clear HA0 HA1 HA2 HA3 HH HD0 HD1 HB b1 b2 b3 DN0 ST0
        have HLT := Lib.hid hlt
        go_upto_region 15 with fail
        refine wp_region_noPanic ?_
        refine AnyK.start (ks := []) (S := fun w' => w'.cell? ⟨ca, 1, none⟩ = some (.slice la s.log.length lc) ∧ w'.cell? ⟨cb, 1, none⟩ = some (.slice lb s.log.length lbc) ∧ w'.cell? ⟨rb, 2, none⟩ = some (.slice lr R.told.length lrc)) (by kernel_rfl) (by exact q0) (fun _ => ?_)
        refine AnyK.take (i := 0) (v := ?_) rfl (by kernel_rfl) (by kernel_rfl) (by kernel_rfl) (by kernel_rfl) (fun _ _ _ h => h) (Or.inl ⟨by rfl, ?_⟩) (by exact q0) ?_
        rotate_left
        focus
          intro w9 hSw
          try dsimp only at hSw
          go_simp
          try with_reducible rfl
        try simp only [Act.put, List.setIfInBounds_toArray, List.set_cons_zero, List.set_cons_succ]
        refine AnyK.one (i := 1) (by kernel_rfl) rfl (fun K9 hK9 => ?_)
        go_simp
        refine DN.out.mono ?_
        rintro e w' ⟨rfl, hw⟩
        have hw := hw.symm
        subst hw
        refine hK9.out _ _ (fun _ => q0) ?_
        clear hK9 K9
        try simp only [Act.put, List.setIfInBounds_toArray, List.set_cons_zero, List.set_cons_succ]
        refine AnyK.one (i := 2) (by kernel_rfl) rfl (fun K9 hK9 => ?_)
        go_simp
        refine hK9.out _ _ (fun _ => q0) ?_
        clear hK9 K9
        try simp only [Act.put, List.setIfInBounds_toArray, List.set_cons_zero, List.set_cons_succ]
        refine AnyK.take (i := 3) (v := ?_) rfl (by kernel_rfl) (by kernel_rfl) (by kernel_rfl) (by kernel_rfl) (fun _ _ _ h => h) (Or.inl ⟨by rfl, ?_⟩) (by exact q0) ?_
        rotate_left
        focus
          intro w9 hSw
          try dsimp only at hSw
          go_simp
          try with_reducible rfl
        try simp only [Act.put, List.setIfInBounds_toArray, List.set_cons_zero, List.set_cons_succ]
        refine AnyK.take (i := 5) (v := ?_) rfl (by kernel_rfl) (by kernel_rfl) (by kernel_rfl) (by kernel_rfl) (fun _ _ _ h => h) (Or.inl ⟨by rfl, ?_⟩) (by exact q0) ?_
        rotate_left
        focus
          intro w9 hSw
          try dsimp only at hSw
          go_simp
          try with_reducible rfl
        try simp only [Act.put, List.setIfInBounds_toArray, List.set_cons_zero, List.set_cons_succ]
        refine AnyK.take (i := 6) (v := ?_) rfl (by kernel_rfl) (by kernel_rfl) (by kernel_rfl) (by kernel_rfl) (fun _ _ _ h => h) (Or.inl ⟨by rfl, ?_⟩) (by exact q0) ?_
        rotate_left
        focus
          intro w9 hSw
          try dsimp only at hSw
          go_simp
          try with_reducible rfl
        try simp only [Act.put, List.setIfInBounds_toArray, List.set_cons_zero, List.set_cons_succ]
        refine AnyK.take (i := 7) (v := ?_) rfl (by kernel_rfl) (by kernel_rfl) (by kernel_rfl) (by kernel_rfl) (fun _ _ _ h => h) (Or.inl ⟨by rfl, ?_⟩) (by exact q0) ?_
        rotate_left
        focus
          intro w9 hSw
          try dsimp only at hSw
          go_simp
          try with_reducible rfl
        try simp only [Act.put, List.setIfInBounds_toArray, List.set_cons_zero, List.set_cons_succ]
        refine AnyK.take (i := 8) (v := ?_) rfl (by kernel_rfl) (by kernel_rfl) (by kernel_rfl) (by kernel_rfl) (fun _ _ _ h => h) (Or.inl ⟨by rfl, ?_⟩) (by exact q0) ?_
        rotate_left
        focus
          intro w9 hSw
          try dsimp only at hSw
          go_simp
          try with_reducible rfl
        try simp only [Act.put, List.setIfInBounds_toArray, List.set_cons_zero, List.set_cons_succ]
        refine AnyK.take (i := 9) (v := ?_) rfl (by kernel_rfl) (by kernel_rfl) (by kernel_rfl) (by kernel_rfl) (fun _ _ _ h => h) (Or.inl ⟨by rfl, ?_⟩) (by exact q0) ?_
        rotate_left
        focus
          intro w9 hSw
          try dsimp only at hSw
          go_simp
          try with_reducible rfl
        try simp only [Act.put, List.setIfInBounds_toArray, List.set_cons_zero, List.set_cons_succ]
        refine AnyK.one (i := 4) (by kernel_rfl) rfl (fun K9 hK9 => ?_)
        go_simp
        refine ST.out.mono ?_
        rintro e w' ⟨rfl, hw⟩
        have hw := hw.symm
        subst hw
        refine hK9.out _ _ (fun _ => q0) ?_
        clear hK9 K9
        try simp only [Act.put, List.setIfInBounds_toArray, List.set_cons_zero, List.set_cons_succ]
        refine AnyK.one (i := 10) (by kernel_rfl) rfl (fun K9 hK9 => ?_)
        go_simp
        refine hK9.out _ _ (fun _ => q0) ?_
        clear hK9 K9
        try simp only [Act.put, List.setIfInBounds_toArray, List.set_cons_zero, List.set_cons_succ]
        refine AnyK.one (i := 11) (by kernel_rfl) rfl (fun K9 hK9 => ?_)
        go_simp
        refine hK9.out _ _ (fun _ => q0) ?_
        clear hK9 K9
        try simp only [Act.put, List.setIfInBounds_toArray, List.set_cons_zero, List.set_cons_succ]
        refine AnyK.one (i := 12) (by kernel_rfl) rfl (fun K9 hK9 => ?_)
        go_simp
        refine hK9.out _ _ (fun _ => q0) ?_
        clear hK9 K9
        try simp only [Act.put, List.setIfInBounds_toArray, List.set_cons_zero, List.set_cons_succ]
        refine AnyK.take (i := 13) (v := ?_) rfl (by kernel_rfl) (by kernel_rfl) (by kernel_rfl) (by kernel_rfl) (fun _ _ _ h => h) (Or.inl ⟨by rfl, ?_⟩) (by exact q0) ?_
        rotate_left
        focus
          intro w9 hSw
          try dsimp only at hSw
          go_simp
          try with_reducible rfl
        try simp only [Act.put, List.setIfInBounds_toArray, List.set_cons_zero, List.set_cons_succ]
        refine AnyK.take (i := 14) (v := ?_) rfl (by kernel_rfl) (by kernel_rfl) (by kernel_rfl) (by kernel_rfl) (fun _ _ _ h => h) (Or.inl ⟨by rfl, ?_⟩) (by exact q0) ?_
        rotate_left
        focus
          intro w9 hSw
          try dsimp only at hSw
          go_simp
          try with_reducible rfl
        try simp only [Act.put, List.setIfInBounds_toArray, List.set_cons_zero, List.set_cons_succ]
        refine AnyK.take (i := 15) (v := ?_) rfl (by kernel_rfl) (by kernel_rfl) (by kernel_rfl) (by kernel_rfl) (fun _ _ _ h => h) (Or.inl ⟨by rfl, ?_⟩) (by exact q0) ?_
        rotate_left
        focus
          intro w9 hSw
          try dsimp only at hSw
          go_simp
          try with_reducible rfl
        try simp only [Act.put, List.setIfInBounds_toArray, List.set_cons_zero, List.set_cons_succ]
        refine AnyK.take (i := 16) (v := ?_) rfl (by kernel_rfl) (by kernel_rfl) (by kernel_rfl) (by kernel_rfl) (fun _ _ _ h => h) (Or.inl ⟨by rfl, ?_⟩) (by exact q0) ?_
        rotate_left
        focus
          intro w9 hSw
          try dsimp only at hSw
          go_simp
          try with_reducible rfl
        try simp only [Act.put, List.setIfInBounds_toArray, List.set_cons_zero, List.set_cons_succ]
        refine AnyK.take (i := 17) (v := ?_) rfl (by kernel_rfl) (by kernel_rfl) (by kernel_rfl) (by kernel_rfl) (fun _ _ _ h => h) (Or.inl ⟨by rfl, ?_⟩) (by exact q0) ?_
        rotate_left
        focus
          intro w9 hSw
          try dsimp only at hSw
          go_simp
          try with_reducible rfl
        try simp only [Act.put, List.setIfInBounds_toArray, List.set_cons_zero, List.set_cons_succ]
        refine AnyK.take (i := 18) (v := ?_) rfl (by kernel_rfl) (by kernel_rfl) (by kernel_rfl) (by kernel_rfl) (fun _ _ _ h => h) (Or.inl ⟨by rfl, ?_⟩) (by exact q0) ?_
        rotate_left
        focus
          intro w9 hSw
          try dsimp only at hSw
          go_simp
          try with_reducible rfl
        try simp only [Act.put, List.setIfInBounds_toArray, List.set_cons_zero, List.set_cons_succ]
        refine AnyK.take (i := 19) (v := ?_) rfl (by kernel_rfl) (by kernel_rfl) (by kernel_rfl) (by kernel_rfl) (fun _ _ _ h => h) (Or.inl ⟨by rfl, ?_⟩) (by exact q0) ?_
        rotate_left
        focus
          intro w9 hSw
          try dsimp only at hSw
          go_simp
          try with_reducible rfl
        try simp only [Act.put, List.setIfInBounds_toArray, List.set_cons_zero, List.set_cons_succ]
        refine AnyK.take (i := 20) (v := ?_) rfl (by kernel_rfl) (by kernel_rfl) (by kernel_rfl) (by kernel_rfl) (fun _ _ _ h => h) (Or.inl ⟨by rfl, ?_⟩) (by exact q0) ?_
        rotate_left
        focus
          intro w9 hSw
          try dsimp only at hSw
          go_simp
          try with_reducible rfl
        try simp only [Act.put, List.setIfInBounds_toArray, List.set_cons_zero, List.set_cons_succ]
        refine AnyK.one (i := 21) (by kernel_rfl) rfl (fun K9 hK9 => ?_)
        go_simp
        refine (same_yes _ _ s.log _ (HD.out.row 9 rfl).rdv (HD.out.row 11 rfl).rdv).mono ?_
        rintro e z1 ⟨rfl, F1⟩
        have q1 := And.intro (F1.cell' q0.1 (fun x => x)) (And.intro (F1.cell' q0.2.1 (fun x => x)) (F1.cell' q0.2.2 (fun x => x)))
        have HD1 := Lib.hid (HD.out.go F1)
        refine hK9.out _ _ (fun _ => q1) ?_
        clear hK9 K9
        try simp only [Act.put, List.setIfInBounds_toArray, List.set_cons_zero, List.set_cons_succ]
        refine AnyK.one (i := 22) (by kernel_rfl) rfl (fun K9 hK9 => ?_)
        go_simp
        refine hK9.out _ _ (fun _ => q1) ?_
        clear hK9 K9
        try simp only [Act.put, List.setIfInBounds_toArray, List.set_cons_zero, List.set_cons_succ]
        refine AnyK.one (i := 23) (by kernel_rfl) rfl (fun K9 hK9 => ?_)
        go_simp
        refine hK9.out _ _ (fun _ => q1) ?_
        clear hK9 K9
        try simp only [Act.put, List.setIfInBounds_toArray, List.set_cons_zero, List.set_cons_succ]
        refine AnyK.take (i := 24) (v := ?_) rfl (by kernel_rfl) (by kernel_rfl) (by kernel_rfl) (by kernel_rfl) (fun _ _ _ h => h) (Or.inl ⟨by rfl, ?_⟩) (by exact q1) ?_
        rotate_left
        focus
          intro w9 hSw
          try dsimp only at hSw
          go_simp
          try with_reducible rfl
        try simp only [Act.put, List.setIfInBounds_toArray, List.set_cons_zero, List.set_cons_succ]
        refine AnyK.take (i := 26) (v := ?_) rfl (by kernel_rfl) (by kernel_rfl) (by kernel_rfl) (by kernel_rfl) (fun _ _ _ h => h) (Or.inl ⟨by rfl, ?_⟩) (by exact q1) ?_
        rotate_left
        focus
          intro w9 hSw
          try dsimp only at hSw
          go_simp
          try with_reducible rfl
        try simp only [Act.put, List.setIfInBounds_toArray, List.set_cons_zero, List.set_cons_succ]
        refine AnyK.take (i := 27) (v := ?_) rfl (by kernel_rfl) (by kernel_rfl) (by kernel_rfl) (by kernel_rfl) (fun _ _ _ h => h) (Or.inl ⟨by rfl, ?_⟩) (by exact q1) ?_
        rotate_left
        focus
          intro w9 hSw
          try dsimp only at hSw
          go_simp
          try with_reducible rfl
        try simp only [Act.put, List.setIfInBounds_toArray, List.set_cons_zero, List.set_cons_succ]
        refine AnyK.take (i := 28) (v := ?_) rfl (by kernel_rfl) (by kernel_rfl) (by kernel_rfl) (by kernel_rfl) (fun _ _ _ h => h) (Or.inl ⟨by rfl, ?_⟩) (by exact q1) ?_
        rotate_left
        focus
          intro w9 hSw
          try dsimp only at hSw
          go_simp
          try with_reducible rfl
        try simp only [Act.put, List.setIfInBounds_toArray, List.set_cons_zero, List.set_cons_succ]
        refine AnyK.take (i := 29) (v := ?_) rfl (by kernel_rfl) (by kernel_rfl) (by kernel_rfl) (by kernel_rfl) (fun _ _ _ h => h) (Or.inl ⟨by rfl, ?_⟩) (by exact q1) ?_
        rotate_left
        focus
          intro w9 hSw
          try dsimp only at hSw
          go_simp
          try with_reducible rfl
        try simp only [Act.put, List.setIfInBounds_toArray, List.set_cons_zero, List.set_cons_succ]
        refine AnyK.one (i := 25) (by kernel_rfl) rfl (fun K9 hK9 => ?_)
        go_simp
        refine (Out_some HD1.out 4 (tb := tb) (T := T) rfl hTd oa R.told.length oc hout R.told (HD1.out.row 7 rfl).rdv HLN.out).mono ?_
        rintro e z2 ⟨o2, c2, rfl, H2⟩
        have q2 := And.intro (show z2.cell? ⟨ca, 1, none⟩ = some (.slice la s.log.length lc) from (H2.blk 8 rfl).cell 1) (And.intro (show z2.cell? ⟨cb, 1, none⟩ = some (.slice lb s.log.length lbc) from (H2.blk 10 rfl).cell 1) (show z2.cell? ⟨rb, 2, none⟩ = some (.slice lr R.told.length lrc) from (H2.blk 12 rfl).cell 2))
        refine hK9.out _ _ (fun _ => q2) ?_
        clear hK9 K9
        try simp only [Act.put, List.setIfInBounds_toArray, List.set_cons_zero, List.set_cons_succ]
        refine AnyK.one (i := 30) (by kernel_rfl) rfl (fun K9 hK9 => ?_)
        go_simp
        refine (same_yes _ _ R.told _ (H2.row 14 rfl).rdv (H2.row 13 rfl).rdv).mono ?_
        rintro e z3 ⟨rfl, F3⟩
        have q3 := And.intro (F3.cell' q2.1 (fun x => x)) (And.intro (F3.cell' q2.2.1 (fun x => x)) (F3.cell' q2.2.2 (fun x => x)))
        refine hK9.out _ _ (fun _ => q3) ?_
        clear hK9 K9
        try simp only [Act.put, List.setIfInBounds_toArray, List.set_cons_zero, List.set_cons_succ]
        refine AnyK.one (i := 31) (by kernel_rfl) rfl (fun K9 hK9 => ?_)
        go_simp
        refine hK9.out _ _ (fun _ => q3) ?_
        clear hK9 K9
        try simp only [Act.put, List.setIfInBounds_toArray, List.set_cons_zero, List.set_cons_succ]
        refine AnyK.one (i := 32) (by kernel_rfl) rfl (fun K9 hK9 => ?_)
        go_simp
        refine hK9.out _ _ (fun _ => q3) ?_
        clear hK9 K9
        try simp only [Act.put, List.setIfInBounds_toArray, List.set_cons_zero, List.set_cons_succ]
        refine AnyK.done (by kernel_rfl) ?_ _
        refine NoPanic.normal ?_
        go_wp2_with fail
        go_ret
        exact ⟨rfl, (H2.go F3).below⟩
end Go.Proofs.Ytblijgdmfohfcaa
