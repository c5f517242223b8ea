/- ThreadRuns: the law's walk. No condition but that what is handed in can be read. -/
import Derived.Test.YtblijgdmfohfcaaThL
namespace Go.Proofs.Ytblijgdmfohfcaa
open Go Go.RowKit
set_option linter.unusedVariables false
set_option linter.unusedSimpArgs false
/-- Two cells, an operation on the first one, a runner. -/
def ruPl (ca cb A B tb rb : Nat) (pv : Value) (sb : Ce) (R : Rn) : Pl Ce := { F := fun s T => [cellP ca s, cellP cb sb, blkP B 25 #[.pointer (some ⟨ca, 0, none⟩)], blkP A 22 #[pv], thP tb T, runP rb pv R], ti := 4, tb := tb, get := fun _ _ => rfl, put := fun _ _ _ => rfl }
def ruMk (ca cb A B tb rb : Nat) (pv : Value) (sb : Ce) (R : Rn) : MkPl (ruPl ca cb A B tb rb pv sb R) ca A B pv := { ci := 0, ai := 3, bi := 2, cget := fun _ _ => rfl, cput := fun _ _ _ => rfl, aget := fun _ _ => rfl, bget := fun _ _ => rfl }
theorem Heap.newRowed {w0 w : World} {l : List Piece} (h : Heap w0 w l) (t et : TypeId) (cs : Value → Array Value) : Heap w0 (w.alloc (.cells (cs (.slice none 0 0)) t)) (l ++ [rowedP w.heap.size t cs et 0 []]) := by
  have h1 := (h.alloc t (cs (.slice none 0 0))).rowNil et 1
  have h2 : Heap w0 (w.alloc (.cells (cs (.slice none 0 0)) t)) ((l ++ [nilP]).set l.length nilP ++ [blkP w.heap.size t (cs (.slice none 0 0)), rowP et 1 (.slice none 0 0) 0 []]) := by
    rw [List.set_append_right _ _ (Nat.le_refl _), Nat.sub_self, List.set_cons_zero, List.append_assoc]
    refine (h1.push (Fr.refl _ _) (p := nilP) (S := fun _ => False) trivial (fun _ x => x.elim)).idx (fun j => if j < l.length then j else if j = l.length then l.length + 2 else j - 1) (fun j hj => ?_) (fun a b ha hb e => ?_)
    · simp at hj
      by_cases h1 : j < l.length
      · simp only [h1, if_true]
        rw [List.getElem?_append_left h1, List.append_assoc, List.append_assoc, List.getElem?_append_left h1]
      · rcases (by omega : j = l.length ∨ j = l.length + 1 ∨ j = l.length + 2) with rfl | rfl | rfl <;> simp [show ¬ (l.length + 1 < l.length) from by omega, show ¬ (l.length + 2 < l.length) from by omega]
    · simp at ha hb
      try simp only at e
      split at e <;> split at e <;> (try split at e) <;> (try split at e) <;> omega
  have h3 := h2.shutR (by simp)
  rwa [List.set_append_right _ _ (Nat.le_refl _), Nat.sub_self, List.set_cons_zero] at h3
theorem six_at (a b c d e f : Piece) (Y m : List Piece) (j : Nat) : ([a, b, c, d, e, f] ++ Y ++ m)[6 + Y.length + j]? = m[j]? := by
  rw [List.getElem?_append_right (by simp; omega)]
  congr 1
  simp; omega
theorem rnNext_at {ps : List Tc} {R : Rn} {s : Ce} (h : (rnNext ps R s).1 = false) : (rnNext ps R s).2.1.at' < ps.length ∧ (rnNext ps R s).2.1.told.length = R.told.length + 1 ∧ R.at' + 1 ≤ (rnNext ps R s).2.1.at' := by
  unfold rnNext at h ⊢
  cases hx : ps[R.at']? with
  | none => rw [hx] at h; simp at h
  | some x =>
    rw [hx] at h
    simp at h ⊢
    exact ⟨h, by split <;> omega⟩
theorem rnNext_few (ps : List Tc) (R : Rn) (s : Ce) : (rnNext ps R s).2.2.log.length ≤ s.log.length + 3 ∧ (rnNext ps R s).2.1.told.length ≤ R.told.length + 1 ∧ (rnNext ps R s).2.1.at' ≤ R.at' + 2 := by
  unfold rnNext
  cases hx : ps[R.at']? with
  | none => simp
  | some x => simp [ceDone]; split <;> omega
set_option maxHeartbeats 16000000 in
set_option maxRecDepth 100000 in
theorem ThreadRuns_walk (v : Value) (ps : List Tc) (first : Int) (hfirst : -128 ≤ first ∧ first ≤ 127) (w : World) (R0 : RdV w v ps.length 2 (tcC ps)) (hps : ∀ x ∈ ps, x.ok) :
    Calls Try.prog 3 #[v, .int .i8 first] w fun e w' => e = .returned (.bool true) ∧ Below w.heap.size w w' := by
  have hm0 := R0.short
  unfold maxLen at hm0
  obtain ⟨pa, pc, rfl⟩ := R0.len
  have HR := Lib.hid R0
  have HPS := Lib.hid hps
  clear R0 hps
  obtain ⟨f0, f1⟩ := hfirst
  go_enter Try.func3, Try.ntmps3
  go_wp2_with fail
  refine (Awake_calls w _ (Fr.refl _ _)).mono ?_
  rintro e w1 ⟨rfl, F1⟩
  by_cases h30 : 30 < ps.length
  · go_wp2_with fail
    go_ret
    exact ⟨rfl, F1.below (Nat.le_refl _) (fun _ x => x.elim)⟩
  have H1 : Heap w w1 [] := (Heap.start w).go F1
  clear F1
  have HM := Lib.hid hm0
  clear hm0
  have H2 := (H1.newRowed 28 2 (ceC ⟨first, []⟩)).newRowed 28 2 (ceC ⟨first, []⟩)
  have hs : (w1.alloc (.cells (ceC ⟨first, []⟩ (.slice none 0 0)) 28)).heap.size = w1.heap.size + 1 := by simp
  rw [hs] at H2
  have H2 : Heap w ((w1.alloc (.cells #[.int .i64 first, .slice none 0 0] 28)).alloc (.cells #[.int .i64 first, .slice none 0 0] 28)) [cellP w1.heap.size ⟨first, []⟩, cellP (w1.heap.size + 1) ⟨first, []⟩] := H2
  have HH := Lib.hid H2
  clear H1 H2 hs
  go_upto_region 6 with fail
  generalize hca : w1.heap.size = ca at *
  generalize hcb : ca + 1 = cb at *
  clear hca hcb
  generalize (w1.alloc (.cells #[.int .i64 first, .slice none 0 0] 28)).alloc (.cells #[.int .i64 first, .slice none 0 0] 28) = w2 at *
  go_wp2_with fail
  refine (Make_h HH.out ca pa ps.length pc).mono ?_
  rintro e w3 ⟨tb, A, B, rfl, H3⟩
  clear HH
  have H4 : Heap w (w3.alloc (.cells #[.slice pa ps.length pc, .int .i64 0, .slice none 0 0] 33)) ((ruPl ca cb A B tb w3.heap.size (.slice pa ps.length pc) ⟨first, []⟩ ⟨0, []⟩).F ⟨first, []⟩ (newTh (mkV A B))) := H3.newRowed 33 2 (rnC (.slice pa ps.length pc) ⟨0, []⟩)
  have HH := Lib.hid H4
  clear H3 H4
  go_upto_region 7 with fail
  generalize w3.heap.size = rb at *
  generalize w3.alloc (.cells #[.slice pa ps.length pc, .int .i64 0, .slice none 0 0] 33) = w4 at *
  have RI := Lib.hid (RunI.start ps)
  go_wp2_with fail
  go_loopw [33] (fun i wr => ∃ (k : Nat) (s : Ce) (T : Th) (R : Rn), i = .int .i64 (k : Nat) ∧ Hid (T.work = mkV A B ∧ T.done = false ∧ T.log = R.told) ∧ Hid (RunI ps R) ∧ R.told.length = k ∧ k ≤ R.at' ∧ k ≤ ps.length ∧ (R.at' < ps.length ∨ k = 0) ∧ Hid (s.log.length ≤ 3 * k ∧ R.at' ≤ 2 * k) ∧ Hid (Heap w wr ((ruPl ca cb A B tb rb (.slice pa ps.length pc) s R).F s T))) (fun i _ => ps.length + 1 - (intOf i).toNat)
  case atStart => exact ⟨0, ⟨first, []⟩, newTh (mkV A B), ⟨0, []⟩, rfl, Lib.hid ⟨rfl, rfl, rfl⟩, RI, rfl, Nat.le_refl _, Nat.zero_le _, .inr rfl, Lib.hid ⟨Nat.zero_le _, Nat.zero_le _⟩, HH⟩
  case round =>
    clear HH RI
    obtain ⟨k, s, T, R, rfl, HT, RI, hRk, hkR, hkl, hlast, HB, HH⟩ := hrel
    obtain ⟨t1, t2, t3⟩ := HT.out
    obtain ⟨b1, b2⟩ := HB.out
    have C := Step_mk (ruMk ca cb A B tb rb (.slice pa ps.length pc) s R) HH.out t1 t2 t3 RI.out HPS.out HR.out (by omega) (by omega) (by omega)
    have RI' := Lib.hid (RI.out.next s)
    have hfew := rnNext_few ps R s
    have NXT := fun (l : List Piece) (z : World) (hz : Heap w z l) (h5 : l[5]? = some (runP rb (.slice pa ps.length pc) R)) (h1 : l[1]? = some (cellP cb s)) => Next_h hz 5 1 (by decide) (.slice pa ps.length pc) h5 h1 ps HPS.out HR.out (by omega) (by omega) (by omega) (by omega)
    have hat : (rnNext ps R s).1 = false → (rnNext ps R s).2.1.at' < ps.length ∧ (rnNext ps R s).2.1.told.length = R.told.length + 1 ∧ R.at' + 1 ≤ (rnNext ps R s).2.1.at' := rnNext_at
    generalize rnNext ps R s = r at *
    obtain ⟨d, R', s'⟩ := r
    dsimp only at C RI' hfew NXT hat
    have CC := Lib.hid C
    have NN := Lib.hid NXT
    have HF := Lib.hid hfew
    have HAT := Lib.hid hat
    clear C NXT hfew hat HH t1 t2 t3 b1 b2
    change Hid (Calls Try.prog 12 #[.pointer (some ⟨tb, 0, none⟩)] wr _) at CC
    go_wp2_with fail
    refine CC.out.mono ?_
    rintro e z1 ⟨T', Y, rfl, H1, hTw, hTl, hTd, hY0, hY1⟩
    have OPA := H1.openR 0 (t := 28) (b := ca) (cs := ceC s') (et := 2) (n := s'.log.length) (us := s'.log.map (Value.int .i64)) rfl
    obtain ⟨la, lc, HA0⟩ := OPA
    have HA1 : Heap w z1 ([nilP, cellP cb s, blkP B 25 #[.pointer (some ⟨ca, 0, none⟩)], blkP A 22 #[.slice pa ps.length pc], thP tb T', runP rb (.slice pa ps.length pc) R] ++ Y ++ [blkP ca 28 (ceC s' (.slice la s'.log.length lc)), rowP 2 1 (.slice la s'.log.length lc) s'.log.length (s'.log.map (Value.int .i64))]) := HA0
    have YI : ∀ (x y : Piece), ([nilP, x, blkP B 25 #[.pointer (some ⟨ca, 0, none⟩)], blkP A 22 #[.slice pa ps.length pc], thP tb T', y] ++ Y ++ [blkP ca 28 (ceC s' (.slice la s'.log.length lc)), rowP 2 1 (.slice la s'.log.length lc) s'.log.length (s'.log.map (Value.int .i64))])[6 + Y.length]? = some (blkP ca 28 (ceC s' (.slice la s'.log.length lc))) := fun x y => by
      exact six_at _ _ _ _ _ _ Y _ 0
    have YJ : ∀ (x y : Piece), ([nilP, x, blkP B 25 #[.pointer (some ⟨ca, 0, none⟩)], blkP A 22 #[.slice pa ps.length pc], thP tb T', y] ++ Y ++ [blkP ca 28 (ceC s' (.slice la s'.log.length lc)), rowP 2 1 (.slice la s'.log.length lc) s'.log.length (s'.log.map (Value.int .i64))])[6 + Y.length + 1]? = some (rowP 2 1 (.slice la s'.log.length lc) s'.log.length (s'.log.map (Value.int .i64))) := fun x y => by
      exact six_at _ _ _ _ _ _ Y _ 1
    have NX : Hid (∀ z, Heap w z ([nilP, cellP cb s, blkP B 25 #[.pointer (some ⟨ca, 0, none⟩)], blkP A 22 #[.slice pa ps.length pc], thP tb T', runP rb (.slice pa ps.length pc) R] ++ Y ++ [blkP ca 28 (ceC s' (.slice la s'.log.length lc)), rowP 2 1 (.slice la s'.log.length lc) s'.log.length (s'.log.map (Value.int .i64))]) → Calls Try.prog 13 #[.pointer (some ⟨rb, 0, none⟩), .pointer (some ⟨cb, 0, none⟩)] z fun e w' => e = .returned (.bool d) ∧ Heap w w' ([nilP, cellP cb s', blkP B 25 #[.pointer (some ⟨ca, 0, none⟩)], blkP A 22 #[.slice pa ps.length pc], thP tb T', runP rb (.slice pa ps.length pc) R'] ++ Y ++ [blkP ca 28 (ceC s' (.slice la s'.log.length lc)), rowP 2 1 (.slice la s'.log.length lc) s'.log.length (s'.log.map (Value.int .i64))])) := Lib.hid (fun z hz => NN.out _ z hz rfl rfl)
    have HA := Lib.hid HA1
    have kca : z1.cell? ⟨ca, 1, none⟩ = some (.slice la s'.log.length lc) := (HA1.blk (6 + Y.length) (b := ca) (t := 28) (c := ceC s' (.slice la s'.log.length lc)) (YI _ _)).cell 1
    have q0 : z1.drew.cell? ⟨ca, 1, none⟩ = some (.slice la s'.log.length lc) := kca
    clear H1 HA0 HA1 CC NN
    go_upto_region 11 with fail
    cases d
    · refine wp_region_noPanic ?_
      refine AnyK.start (ks := []) (S := fun w' => w'.cell? ⟨ca, 1, none⟩ = some (.slice la s'.log.length lc)) (by kernel_rfl) (by exact q0) (fun _ => ?_)
      refine AnyK.take (i := 0) (v := ?_) rfl (by kernel_rfl) (by kernel_rfl) (by kernel_rfl) (by kernel_rfl) (fun _ _ _ h => h) (Or.inl ⟨by rfl, ?_⟩) (by exact q0) ?_
      rotate_left
      focus
        intro w9 hSw
        try dsimp only at hSw
        go_simp
        try with_reducible rfl
      try simp only [Act.put, List.setIfInBounds_toArray, List.set_cons_zero, List.set_cons_succ]
      refine AnyK.take (i := 1) (v := ?_) rfl (by kernel_rfl) (by kernel_rfl) (by kernel_rfl) (by kernel_rfl) (fun _ _ _ h => h) (Or.inl ⟨by rfl, ?_⟩) (by exact q0) ?_
      rotate_left
      focus
        intro w9 hSw
        try dsimp only at hSw
        go_simp
        try with_reducible rfl
      try simp only [Act.put, List.setIfInBounds_toArray, List.set_cons_zero, List.set_cons_succ]
      refine AnyK.take (i := 2) (v := ?_) rfl (by kernel_rfl) (by kernel_rfl) (by kernel_rfl) (by kernel_rfl) (fun _ _ _ h => h) (Or.inl ⟨by rfl, ?_⟩) (by exact q0) ?_
      rotate_left
      focus
        intro w9 hSw
        try dsimp only at hSw
        go_simp
        try with_reducible rfl
      try simp only [Act.put, List.setIfInBounds_toArray, List.set_cons_zero, List.set_cons_succ]
      refine AnyK.one (i := 3) (by kernel_rfl) rfl (fun K9 hK9 => ?_)
      go_simp
      refine (NX.out _ HA.out.drew).mono ?_
      rintro e z2 ⟨rfl, H2⟩
      have qs : z2.cell? ⟨ca, 1, none⟩ = some (.slice la s'.log.length lc) := (H2.blk (6 + Y.length) (b := ca) (t := 28) (c := ceC s' (.slice la s'.log.length lc)) (YI _ _)).cell 1
      refine hK9.out _ _ (fun _ => qs) ?_
      clear hK9 K9
      try simp only [Act.put, List.setIfInBounds_toArray, List.set_cons_zero, List.set_cons_succ]
      have OPB := H2.openR 1 (t := 28) (b := cb) (cs := ceC s') (et := 2) (n := s'.log.length) (us := s'.log.map (Value.int .i64)) rfl
      obtain ⟨lb, lbc, HB⟩ := OPB
      have kb : z2.cell? ⟨cb, 1, none⟩ = some (.slice lb s'.log.length lbc) := HB.rBlk.cell 1
      have RB := Lib.hid HB.rRow.rdv
      have RA := Lib.hid (H2.row (6 + Y.length + 1) (t := 2) (sz := 1) (n := s'.log.length) (v := .slice la s'.log.length lc) (us := s'.log.map (Value.int .i64)) (YJ _ _)).rdv
      have OPR := H2.openR 5 (t := 33) (b := rb) (cs := rnC (.slice pa ps.length pc) R') (et := 2) (n := R'.told.length) (us := R'.told.map (Value.int .i64)) rfl
      obtain ⟨lr, lrc, HRR⟩ := OPR
      have kr : z2.cell? ⟨rb, 2, none⟩ = some (.slice lr R'.told.length lrc) := HRR.rBlk.cell 2
      have DN := Lib.hid (Done_h H2 4 (tb := tb) (T := T') rfl 33 #[] #[.pointer (some ⟨A, 0, none⟩), .pointer (some ⟨B, 0, none⟩)] hTw)
      rw [hTd] at DN
      have ST := Lib.hid (Steps_h H2 4 (tb := tb) (T := T') rfl)
      rw [hTl] at ST
      have H2H := Lib.hid H2
      clear HB HRR H2
      refine AnyK.one (i := 4) (by kernel_rfl) rfl (fun K9 hK9 => ?_)
      go_simp
      refine hK9.out _ _ (fun _ => qs) ?_
      clear hK9 K9
      try simp only [Act.put, List.setIfInBounds_toArray, List.set_cons_zero, List.set_cons_succ]
      refine AnyK.one (i := 5) (by kernel_rfl) rfl (fun K9 hK9 => ?_)
      go_simp
      refine hK9.out _ _ (fun _ => qs) ?_
      clear hK9 K9
      try simp only [Act.put, List.setIfInBounds_toArray, List.set_cons_zero, List.set_cons_succ]
      refine AnyK.take (i := 6) (v := ?_) rfl (by kernel_rfl) (by kernel_rfl) (by kernel_rfl) (by kernel_rfl) (fun _ _ _ h => h) (Or.inl ⟨by rfl, ?_⟩) (by exact qs) ?_
      rotate_left
      focus
        intro w9 hSw
        try dsimp only at hSw
        go_simp
        try with_reducible rfl
      try simp only [Act.put, List.setIfInBounds_toArray, List.set_cons_zero, List.set_cons_succ]
      refine AnyK.take (i := 7) (v := ?_) rfl (by kernel_rfl) (by kernel_rfl) (by kernel_rfl) (by kernel_rfl) (fun _ _ _ h => h) (Or.inl ⟨by rfl, ?_⟩) (by exact qs) ?_
      rotate_left
      focus
        intro w9 hSw
        try dsimp only at hSw
        go_simp
        try with_reducible rfl
      try simp only [Act.put, List.setIfInBounds_toArray, List.set_cons_zero, List.set_cons_succ]
      refine AnyK.one (i := 8) (by kernel_rfl) rfl (fun K9 hK9 => ?_)
      go_simp
      refine DN.out.mono ?_
      rintro e w' ⟨rfl, hw⟩
      have hw := hw.symm
      subst hw
      refine hK9.out _ _ (fun _ => qs) ?_
      clear hK9 K9
      try simp only [Act.put, List.setIfInBounds_toArray, List.set_cons_zero, List.set_cons_succ]
      refine AnyK.one (i := 9) (by kernel_rfl) rfl (fun K9 hK9 => ?_)
      go_simp
      refine hK9.out _ _ (fun _ => qs) ?_
      clear hK9 K9
      try simp only [Act.put, List.setIfInBounds_toArray, List.set_cons_zero, List.set_cons_succ]
      refine AnyK.one (i := 10) (by kernel_rfl) rfl (fun K9 hK9 => ?_)
      go_simp
      refine hK9.out _ _ (fun _ => qs) ?_
      clear hK9 K9
      try simp only [Act.put, List.setIfInBounds_toArray, List.set_cons_zero, List.set_cons_succ]
      refine AnyK.one (i := 11) (by kernel_rfl) rfl (fun K9 hK9 => ?_)
      go_simp
      refine hK9.out _ _ (fun _ => qs) ?_
      clear hK9 K9
      try simp only [Act.put, List.setIfInBounds_toArray, List.set_cons_zero, List.set_cons_succ]
      refine AnyK.take (i := 12) (v := ?_) rfl (by kernel_rfl) (by kernel_rfl) (by kernel_rfl) (by kernel_rfl) (fun _ _ _ h => h) (Or.inl ⟨by rfl, ?_⟩) (by exact qs) ?_
      rotate_left
      focus
        intro w9 hSw
        try dsimp only at hSw
        go_simp
        try with_reducible rfl
      try simp only [Act.put, List.setIfInBounds_toArray, List.set_cons_zero, List.set_cons_succ]
      refine AnyK.take (i := 13) (v := ?_) rfl (by kernel_rfl) (by kernel_rfl) (by kernel_rfl) (by kernel_rfl) (fun _ _ _ h => h) (Or.inl ⟨by rfl, ?_⟩) (by exact qs) ?_
      rotate_left
      focus
        intro w9 hSw
        try dsimp only at hSw
        go_simp
        try with_reducible rfl
      try simp only [Act.put, List.setIfInBounds_toArray, List.set_cons_zero, List.set_cons_succ]
      refine AnyK.take (i := 14) (v := ?_) rfl (by kernel_rfl) (by kernel_rfl) (by kernel_rfl) (by kernel_rfl) (fun _ _ _ h => h) (Or.inl ⟨by rfl, ?_⟩) (by exact qs) ?_
      rotate_left
      focus
        intro w9 hSw
        try dsimp only at hSw
        go_simp
        try with_reducible rfl
      try simp only [Act.put, List.setIfInBounds_toArray, List.set_cons_zero, List.set_cons_succ]
      refine AnyK.take (i := 15) (v := ?_) rfl (by kernel_rfl) (by kernel_rfl) (by kernel_rfl) (by kernel_rfl) (fun _ _ _ h => h) (Or.inl ⟨by rfl, ?_⟩) (by exact qs) ?_
      rotate_left
      focus
        intro w9 hSw
        try dsimp only at hSw
        go_simp
        try with_reducible rfl
      try simp only [Act.put, List.setIfInBounds_toArray, List.set_cons_zero, List.set_cons_succ]
      refine AnyK.take (i := 16) (v := ?_) rfl (by kernel_rfl) (by kernel_rfl) (by kernel_rfl) (by kernel_rfl) (fun _ _ _ h => h) (Or.inl ⟨by rfl, ?_⟩) (by exact qs) ?_
      rotate_left
      focus
        intro w9 hSw
        try dsimp only at hSw
        go_simp
        try with_reducible rfl
      try simp only [Act.put, List.setIfInBounds_toArray, List.set_cons_zero, List.set_cons_succ]
      refine AnyK.take (i := 17) (v := ?_) rfl (by kernel_rfl) (by kernel_rfl) (by kernel_rfl) (by kernel_rfl) (fun _ _ _ h => h) (Or.inl ⟨by rfl, ?_⟩) (by exact qs) ?_
      rotate_left
      focus
        intro w9 hSw
        try dsimp only at hSw
        go_simp
        try with_reducible rfl
      try simp only [Act.put, List.setIfInBounds_toArray, List.set_cons_zero, List.set_cons_succ]
      refine AnyK.take (i := 18) (v := ?_) rfl (by kernel_rfl) (by kernel_rfl) (by kernel_rfl) (by kernel_rfl) (fun _ _ _ h => h) (Or.inl ⟨by rfl, ?_⟩) (by exact qs) ?_
      rotate_left
      focus
        intro w9 hSw
        try dsimp only at hSw
        go_simp
        try with_reducible rfl
      try simp only [Act.put, List.setIfInBounds_toArray, List.set_cons_zero, List.set_cons_succ]
      refine AnyK.one (i := 19) (by kernel_rfl) rfl (fun K9 hK9 => ?_)
      go_simp
      refine hK9.out _ _ (fun _ => qs) ?_
      clear hK9 K9
      try simp only [Act.put, List.setIfInBounds_toArray, List.set_cons_zero, List.set_cons_succ]
      refine AnyK.one (i := 20) (by kernel_rfl) rfl (fun K9 hK9 => ?_)
      go_simp
      refine (same_yes _ _ s'.log _ RA.out RB.out).mono ?_
      rintro e z3 ⟨rfl, F3⟩
      have qs2 := F3.cell' qs (fun x => x)
      refine hK9.out _ _ (fun _ => qs2) ?_
      clear hK9 K9
      try simp only [Act.put, List.setIfInBounds_toArray, List.set_cons_zero, List.set_cons_succ]
      have kr2 := F3.cell' kr (fun x => x)
      have H3H := Lib.hid (H2H.out.go F3)
      have ST2 := Lib.hid (Steps_h H3H.out 4 (tb := tb) (T := T') rfl)
      rw [hTl] at ST2
      clear qs
      have qs := qs2
      clear qs2 kb kr ST DN RA RB
      refine AnyK.one (i := 21) (by kernel_rfl) rfl (fun K9 hK9 => ?_)
      go_simp
      refine hK9.out _ _ (fun _ => qs) ?_
      clear hK9 K9
      try simp only [Act.put, List.setIfInBounds_toArray, List.set_cons_zero, List.set_cons_succ]
      refine AnyK.one (i := 22) (by kernel_rfl) rfl (fun K9 hK9 => ?_)
      go_simp
      refine hK9.out _ _ (fun _ => qs) ?_
      clear hK9 K9
      try simp only [Act.put, List.setIfInBounds_toArray, List.set_cons_zero, List.set_cons_succ]
      refine AnyK.one (i := 23) (by kernel_rfl) rfl (fun K9 hK9 => ?_)
      go_simp
      refine hK9.out _ _ (fun _ => qs) ?_
      clear hK9 K9
      try simp only [Act.put, List.setIfInBounds_toArray, List.set_cons_zero, List.set_cons_succ]
      refine AnyK.take (i := 24) (v := ?_) rfl (by kernel_rfl) (by kernel_rfl) (by kernel_rfl) (by kernel_rfl) (fun _ _ _ h => h) (Or.inl ⟨by rfl, ?_⟩) (by exact qs) ?_
      rotate_left
      focus
        intro w9 hSw
        try dsimp only at hSw
        go_simp
        try with_reducible rfl
      try simp only [Act.put, List.setIfInBounds_toArray, List.set_cons_zero, List.set_cons_succ]
      refine AnyK.take (i := 26) (v := ?_) rfl (by kernel_rfl) (by kernel_rfl) (by kernel_rfl) (by kernel_rfl) (fun _ _ _ h => h) (Or.inl ⟨by rfl, ?_⟩) (by exact qs) ?_
      rotate_left
      focus
        intro w9 hSw
        try dsimp only at hSw
        go_simp
        try with_reducible rfl
      try simp only [Act.put, List.setIfInBounds_toArray, List.set_cons_zero, List.set_cons_succ]
      refine AnyK.take (i := 27) (v := ?_) rfl (by kernel_rfl) (by kernel_rfl) (by kernel_rfl) (by kernel_rfl) (fun _ _ _ h => h) (Or.inl ⟨by rfl, ?_⟩) (by exact qs) ?_
      rotate_left
      focus
        intro w9 hSw
        try dsimp only at hSw
        go_simp
        try with_reducible rfl
      try simp only [Act.put, List.setIfInBounds_toArray, List.set_cons_zero, List.set_cons_succ]
      refine AnyK.take (i := 28) (v := ?_) rfl (by kernel_rfl) (by kernel_rfl) (by kernel_rfl) (by kernel_rfl) (fun _ _ _ h => h) (Or.inl ⟨by rfl, ?_⟩) (by exact qs) ?_
      rotate_left
      focus
        intro w9 hSw
        try dsimp only at hSw
        go_simp
        try with_reducible rfl
      try simp only [Act.put, List.setIfInBounds_toArray, List.set_cons_zero, List.set_cons_succ]
      refine AnyK.two (i := 25) (j := 29) (by kernel_rfl) rfl rfl (fun K9 hK9 => ?_) (fun K9 hK9 => ?_)
      · go_simp
        refine ST2.out.mono ?_
        rintro e w' ⟨rfl, hw⟩
        have hw := hw.symm
        subst hw
        refine hK9.out _ _ (fun _ => qs) ?_
        clear hK9 K9
        try simp only [Act.put, List.setIfInBounds_toArray, List.set_cons_zero, List.set_cons_succ]
        refine AnyK.one (i := 29) (by kernel_rfl) rfl (fun K9 hK9 => ?_)
        go_simp
        refine hK9.out _ _ (fun _ => qs) ?_
        clear hK9 K9
        try simp only [Act.put, List.setIfInBounds_toArray, List.set_cons_zero, List.set_cons_succ]
        refine AnyK.one (i := 30) (by kernel_rfl) rfl (fun K9 hK9 => ?_)
        go_simp
        refine hK9.out _ _ (fun _ => qs) ?_
        clear hK9 K9
        try simp only [Act.put, List.setIfInBounds_toArray, List.set_cons_zero, List.set_cons_succ]
        refine AnyK.one (i := 31) (by kernel_rfl) rfl (fun K9 hK9 => ?_)
        go_simp
        refine hK9.out _ _ (fun _ => qs) ?_
        clear hK9 K9
        try simp only [Act.put, List.setIfInBounds_toArray, List.set_cons_zero, List.set_cons_succ]
        refine AnyK.one (i := 32) (by kernel_rfl) rfl (fun K9 hK9 => ?_)
        go_simp
        refine hK9.out _ _ (fun _ => qs) ?_
        clear hK9 K9
        try simp only [Act.put, List.setIfInBounds_toArray, List.set_cons_zero, List.set_cons_succ]
        refine AnyK.done (by kernel_rfl) ?_ _
        refine NoPanic.normal ?_
        go_wp2_with fail
        have OUT := Lib.hid (Out_none H3H.out 4 (tb := tb) (T := T') rfl hTd)
        have hkk : (R'.told.length : Int) = (k : Int) + 1 := by have := (HAT.out (by trivial)).2.1; omega
        go_wp2_with fail
        refine OUT.out.mono ?_
        rintro e w' ⟨rfl, hw⟩
        have hw := hw.symm
        subst hw
        go_wp2_with fail
        refine ST2.out.mono ?_
        rintro e w' ⟨rfl, hw⟩
        have hw := hw.symm
        subst hw
        go_wp2_with fail
        obtain rfl := hY0 (by trivial)
        have h3 := HAT.out (by trivial)
        have h4 := HF.out
        have h5 := HB.out
        have HZ : Heap w z3 ((ruPl ca cb A B tb rb (.slice pa ps.length pc) s' R').F s' T') := Heap.shutR (l := [nilP, cellP cb s', blkP B 25 #[.pointer (some ⟨ca, 0, none⟩)], blkP A 22 #[.slice pa ps.length pc], thP tb T', runP rb (.slice pa ps.length pc) R']) (i := 0) (cs := ceC s') (lv := .slice la s'.log.length lc) H3H.out (by simp)
        refine ⟨⟨k + 1, s', T', R', by go_num, Lib.hid ⟨hTw, hTd, hTl⟩, RI', by omega, by omega, by omega, .inl (by omega), Lib.hid ⟨by omega, by omega⟩, Lib.hid HZ⟩, by simp [intOf]; omega⟩
      · go_simp
        refine hK9.out _ _ (fun _ => qs) ?_
        clear hK9 K9
        try simp only [Act.put, List.setIfInBounds_toArray, List.set_cons_zero, List.set_cons_succ]
        refine AnyK.take (i := 30) (v := ?_) rfl (by kernel_rfl) (by kernel_rfl) (by kernel_rfl) (by kernel_rfl) (fun _ _ _ h => h) (Or.inl ⟨by rfl, ?_⟩) (by exact qs) ?_
        rotate_left
        focus
          intro w9 hSw
          try dsimp only at hSw
          go_simp
          try with_reducible rfl
        try simp only [Act.put, List.setIfInBounds_toArray, List.set_cons_zero, List.set_cons_succ]
        refine AnyK.one (i := 25) (by kernel_rfl) rfl (fun K9 hK9 => ?_)
        go_simp
        refine ST2.out.mono ?_
        rintro e w' ⟨rfl, hw⟩
        have hw := hw.symm
        subst hw
        refine hK9.out _ _ (fun _ => qs) ?_
        clear hK9 K9
        try simp only [Act.put, List.setIfInBounds_toArray, List.set_cons_zero, List.set_cons_succ]
        refine AnyK.one (i := 31) (by kernel_rfl) rfl (fun K9 hK9 => ?_)
        go_simp
        refine hK9.out _ _ (fun _ => qs) ?_
        clear hK9 K9
        try simp only [Act.put, List.setIfInBounds_toArray, List.set_cons_zero, List.set_cons_succ]
        refine AnyK.one (i := 32) (by kernel_rfl) rfl (fun K9 hK9 => ?_)
        go_simp
        refine hK9.out _ _ (fun _ => qs) ?_
        clear hK9 K9
        try simp only [Act.put, List.setIfInBounds_toArray, List.set_cons_zero, List.set_cons_succ]
        refine AnyK.done (by kernel_rfl) ?_ _
        refine NoPanic.normal ?_
        go_wp2_with fail
        have OUT := Lib.hid (Out_none H3H.out 4 (tb := tb) (T := T') rfl hTd)
        have hkk : (R'.told.length : Int) = (k : Int) + 1 := by have := (HAT.out (by trivial)).2.1; omega
        go_wp2_with fail
        refine OUT.out.mono ?_
        rintro e w' ⟨rfl, hw⟩
        have hw := hw.symm
        subst hw
        go_wp2_with fail
        refine ST2.out.mono ?_
        rintro e w' ⟨rfl, hw⟩
        have hw := hw.symm
        subst hw
        go_wp2_with fail
        obtain rfl := hY0 (by trivial)
        have h3 := HAT.out (by trivial)
        have h4 := HF.out
        have h5 := HB.out
        have HZ : Heap w z3 ((ruPl ca cb A B tb rb (.slice pa ps.length pc) s' R').F s' T') := Heap.shutR (l := [nilP, cellP cb s', blkP B 25 #[.pointer (some ⟨ca, 0, none⟩)], blkP A 22 #[.slice pa ps.length pc], thP tb T', runP rb (.slice pa ps.length pc) R']) (i := 0) (cs := ceC s') (lv := .slice la s'.log.length lc) H3H.out (by simp)
        refine ⟨⟨k + 1, s', T', R', by go_num, Lib.hid ⟨hTw, hTd, hTl⟩, RI', by omega, by omega, by omega, .inl (by omega), Lib.hid ⟨by omega, by omega⟩, Lib.hid HZ⟩, by simp [intOf]; omega⟩
    · refine wp_region_noPanic ?_
      refine AnyK.start (ks := []) (S := fun w' => w'.cell? ⟨ca, 1, none⟩ = some (.slice la s'.log.length lc)) (by kernel_rfl) (by exact q0) (fun _ => ?_)
      refine AnyK.take (i := 0) (v := ?_) rfl (by kernel_rfl) (by kernel_rfl) (by kernel_rfl) (by kernel_rfl) (fun _ _ _ h => h) (Or.inl ⟨by rfl, ?_⟩) (by exact q0) ?_
      rotate_left
      focus
        intro w9 hSw
        try dsimp only at hSw
        go_simp
        try with_reducible rfl
      try simp only [Act.put, List.setIfInBounds_toArray, List.set_cons_zero, List.set_cons_succ]
      refine AnyK.take (i := 1) (v := ?_) rfl (by kernel_rfl) (by kernel_rfl) (by kernel_rfl) (by kernel_rfl) (fun _ _ _ h => h) (Or.inl ⟨by rfl, ?_⟩) (by exact q0) ?_
      rotate_left
      focus
        intro w9 hSw
        try dsimp only at hSw
        go_simp
        try with_reducible rfl
      try simp only [Act.put, List.setIfInBounds_toArray, List.set_cons_zero, List.set_cons_succ]
      refine AnyK.take (i := 2) (v := ?_) rfl (by kernel_rfl) (by kernel_rfl) (by kernel_rfl) (by kernel_rfl) (fun _ _ _ h => h) (Or.inl ⟨by rfl, ?_⟩) (by exact q0) ?_
      rotate_left
      focus
        intro w9 hSw
        try dsimp only at hSw
        go_simp
        try with_reducible rfl
      try simp only [Act.put, List.setIfInBounds_toArray, List.set_cons_zero, List.set_cons_succ]
      refine AnyK.one (i := 3) (by kernel_rfl) rfl (fun K9 hK9 => ?_)
      go_simp
      refine (NX.out _ HA.out.drew).mono ?_
      rintro e z2 ⟨rfl, H2⟩
      have qs : z2.cell? ⟨ca, 1, none⟩ = some (.slice la s'.log.length lc) := (H2.blk (6 + Y.length) (b := ca) (t := 28) (c := ceC s' (.slice la s'.log.length lc)) (YI _ _)).cell 1
      refine hK9.out _ _ (fun _ => qs) ?_
      clear hK9 K9
      try simp only [Act.put, List.setIfInBounds_toArray, List.set_cons_zero, List.set_cons_succ]
      have OPB := H2.openR 1 (t := 28) (b := cb) (cs := ceC s') (et := 2) (n := s'.log.length) (us := s'.log.map (Value.int .i64)) rfl
      obtain ⟨lb, lbc, HB⟩ := OPB
      have kb : z2.cell? ⟨cb, 1, none⟩ = some (.slice lb s'.log.length lbc) := HB.rBlk.cell 1
      have RB := Lib.hid HB.rRow.rdv
      have RA := Lib.hid (H2.row (6 + Y.length + 1) (t := 2) (sz := 1) (n := s'.log.length) (v := .slice la s'.log.length lc) (us := s'.log.map (Value.int .i64)) (YJ _ _)).rdv
      have OPR := H2.openR 5 (t := 33) (b := rb) (cs := rnC (.slice pa ps.length pc) R') (et := 2) (n := R'.told.length) (us := R'.told.map (Value.int .i64)) rfl
      obtain ⟨lr, lrc, HRR⟩ := OPR
      have kr : z2.cell? ⟨rb, 2, none⟩ = some (.slice lr R'.told.length lrc) := HRR.rBlk.cell 2
      have DN := Lib.hid (Done_h H2 4 (tb := tb) (T := T') rfl 33 #[] #[.pointer (some ⟨A, 0, none⟩), .pointer (some ⟨B, 0, none⟩)] hTw)
      rw [hTd] at DN
      have ST := Lib.hid (Steps_h H2 4 (tb := tb) (T := T') rfl)
      rw [hTl] at ST
      have H2H := Lib.hid H2
      clear HB HRR H2
      refine AnyK.one (i := 4) (by kernel_rfl) rfl (fun K9 hK9 => ?_)
      go_simp
      refine hK9.out _ _ (fun _ => qs) ?_
      clear hK9 K9
      try simp only [Act.put, List.setIfInBounds_toArray, List.set_cons_zero, List.set_cons_succ]
      refine AnyK.one (i := 5) (by kernel_rfl) rfl (fun K9 hK9 => ?_)
      go_simp
      refine hK9.out _ _ (fun _ => qs) ?_
      clear hK9 K9
      try simp only [Act.put, List.setIfInBounds_toArray, List.set_cons_zero, List.set_cons_succ]
      refine AnyK.take (i := 6) (v := ?_) rfl (by kernel_rfl) (by kernel_rfl) (by kernel_rfl) (by kernel_rfl) (fun _ _ _ h => h) (Or.inl ⟨by rfl, ?_⟩) (by exact qs) ?_
      rotate_left
      focus
        intro w9 hSw
        try dsimp only at hSw
        go_simp
        try with_reducible rfl
      try simp only [Act.put, List.setIfInBounds_toArray, List.set_cons_zero, List.set_cons_succ]
      refine AnyK.take (i := 7) (v := ?_) rfl (by kernel_rfl) (by kernel_rfl) (by kernel_rfl) (by kernel_rfl) (fun _ _ _ h => h) (Or.inl ⟨by rfl, ?_⟩) (by exact qs) ?_
      rotate_left
      focus
        intro w9 hSw
        try dsimp only at hSw
        go_simp
        try with_reducible rfl
      try simp only [Act.put, List.setIfInBounds_toArray, List.set_cons_zero, List.set_cons_succ]
      refine AnyK.one (i := 8) (by kernel_rfl) rfl (fun K9 hK9 => ?_)
      go_simp
      refine DN.out.mono ?_
      rintro e w' ⟨rfl, hw⟩
      have hw := hw.symm
      subst hw
      refine hK9.out _ _ (fun _ => qs) ?_
      clear hK9 K9
      try simp only [Act.put, List.setIfInBounds_toArray, List.set_cons_zero, List.set_cons_succ]
      refine AnyK.one (i := 9) (by kernel_rfl) rfl (fun K9 hK9 => ?_)
      go_simp
      refine hK9.out _ _ (fun _ => qs) ?_
      clear hK9 K9
      try simp only [Act.put, List.setIfInBounds_toArray, List.set_cons_zero, List.set_cons_succ]
      refine AnyK.one (i := 10) (by kernel_rfl) rfl (fun K9 hK9 => ?_)
      go_simp
      refine hK9.out _ _ (fun _ => qs) ?_
      clear hK9 K9
      try simp only [Act.put, List.setIfInBounds_toArray, List.set_cons_zero, List.set_cons_succ]
      refine AnyK.one (i := 11) (by kernel_rfl) rfl (fun K9 hK9 => ?_)
      go_simp
      refine hK9.out _ _ (fun _ => qs) ?_
      clear hK9 K9
      try simp only [Act.put, List.setIfInBounds_toArray, List.set_cons_zero, List.set_cons_succ]
      refine AnyK.take (i := 12) (v := ?_) rfl (by kernel_rfl) (by kernel_rfl) (by kernel_rfl) (by kernel_rfl) (fun _ _ _ h => h) (Or.inl ⟨by rfl, ?_⟩) (by exact qs) ?_
      rotate_left
      focus
        intro w9 hSw
        try dsimp only at hSw
        go_simp
        try with_reducible rfl
      try simp only [Act.put, List.setIfInBounds_toArray, List.set_cons_zero, List.set_cons_succ]
      refine AnyK.take (i := 13) (v := ?_) rfl (by kernel_rfl) (by kernel_rfl) (by kernel_rfl) (by kernel_rfl) (fun _ _ _ h => h) (Or.inl ⟨by rfl, ?_⟩) (by exact qs) ?_
      rotate_left
      focus
        intro w9 hSw
        try dsimp only at hSw
        go_simp
        try with_reducible rfl
      try simp only [Act.put, List.setIfInBounds_toArray, List.set_cons_zero, List.set_cons_succ]
      refine AnyK.take (i := 14) (v := ?_) rfl (by kernel_rfl) (by kernel_rfl) (by kernel_rfl) (by kernel_rfl) (fun _ _ _ h => h) (Or.inl ⟨by rfl, ?_⟩) (by exact qs) ?_
      rotate_left
      focus
        intro w9 hSw
        try dsimp only at hSw
        go_simp
        try with_reducible rfl
      try simp only [Act.put, List.setIfInBounds_toArray, List.set_cons_zero, List.set_cons_succ]
      refine AnyK.take (i := 15) (v := ?_) rfl (by kernel_rfl) (by kernel_rfl) (by kernel_rfl) (by kernel_rfl) (fun _ _ _ h => h) (Or.inl ⟨by rfl, ?_⟩) (by exact qs) ?_
      rotate_left
      focus
        intro w9 hSw
        try dsimp only at hSw
        go_simp
        try with_reducible rfl
      try simp only [Act.put, List.setIfInBounds_toArray, List.set_cons_zero, List.set_cons_succ]
      refine AnyK.take (i := 16) (v := ?_) rfl (by kernel_rfl) (by kernel_rfl) (by kernel_rfl) (by kernel_rfl) (fun _ _ _ h => h) (Or.inl ⟨by rfl, ?_⟩) (by exact qs) ?_
      rotate_left
      focus
        intro w9 hSw
        try dsimp only at hSw
        go_simp
        try with_reducible rfl
      try simp only [Act.put, List.setIfInBounds_toArray, List.set_cons_zero, List.set_cons_succ]
      refine AnyK.take (i := 17) (v := ?_) rfl (by kernel_rfl) (by kernel_rfl) (by kernel_rfl) (by kernel_rfl) (fun _ _ _ h => h) (Or.inl ⟨by rfl, ?_⟩) (by exact qs) ?_
      rotate_left
      focus
        intro w9 hSw
        try dsimp only at hSw
        go_simp
        try with_reducible rfl
      try simp only [Act.put, List.setIfInBounds_toArray, List.set_cons_zero, List.set_cons_succ]
      refine AnyK.take (i := 18) (v := ?_) rfl (by kernel_rfl) (by kernel_rfl) (by kernel_rfl) (by kernel_rfl) (fun _ _ _ h => h) (Or.inl ⟨by rfl, ?_⟩) (by exact qs) ?_
      rotate_left
      focus
        intro w9 hSw
        try dsimp only at hSw
        go_simp
        try with_reducible rfl
      try simp only [Act.put, List.setIfInBounds_toArray, List.set_cons_zero, List.set_cons_succ]
      refine AnyK.one (i := 19) (by kernel_rfl) rfl (fun K9 hK9 => ?_)
      go_simp
      refine hK9.out _ _ (fun _ => qs) ?_
      clear hK9 K9
      try simp only [Act.put, List.setIfInBounds_toArray, List.set_cons_zero, List.set_cons_succ]
      refine AnyK.one (i := 20) (by kernel_rfl) rfl (fun K9 hK9 => ?_)
      go_simp
      refine (same_yes _ _ s'.log _ RA.out RB.out).mono ?_
      rintro e z3 ⟨rfl, F3⟩
      have qs2 := F3.cell' qs (fun x => x)
      refine hK9.out _ _ (fun _ => qs2) ?_
      clear hK9 K9
      try simp only [Act.put, List.setIfInBounds_toArray, List.set_cons_zero, List.set_cons_succ]
      have kr2 := F3.cell' kr (fun x => x)
      have H3H := Lib.hid (H2H.out.go F3)
      have ST2 := Lib.hid (Steps_h H3H.out 4 (tb := tb) (T := T') rfl)
      rw [hTl] at ST2
      clear qs
      have qs := qs2
      clear qs2 kb kr ST DN RA RB
      refine AnyK.one (i := 21) (by kernel_rfl) rfl (fun K9 hK9 => ?_)
      go_simp
      refine hK9.out _ _ (fun _ => qs) ?_
      clear hK9 K9
      try simp only [Act.put, List.setIfInBounds_toArray, List.set_cons_zero, List.set_cons_succ]
      refine AnyK.one (i := 22) (by kernel_rfl) rfl (fun K9 hK9 => ?_)
      go_simp
      refine hK9.out _ _ (fun _ => qs) ?_
      clear hK9 K9
      try simp only [Act.put, List.setIfInBounds_toArray, List.set_cons_zero, List.set_cons_succ]
      refine AnyK.one (i := 23) (by kernel_rfl) rfl (fun K9 hK9 => ?_)
      go_simp
      refine hK9.out _ _ (fun _ => qs) ?_
      clear hK9 K9
      try simp only [Act.put, List.setIfInBounds_toArray, List.set_cons_zero, List.set_cons_succ]
      refine AnyK.take (i := 24) (v := ?_) rfl (by kernel_rfl) (by kernel_rfl) (by kernel_rfl) (by kernel_rfl) (fun _ _ _ h => h) (Or.inl ⟨by rfl, ?_⟩) (by exact qs) ?_
      rotate_left
      focus
        intro w9 hSw
        try dsimp only at hSw
        go_simp
        try with_reducible rfl
      try simp only [Act.put, List.setIfInBounds_toArray, List.set_cons_zero, List.set_cons_succ]
      refine AnyK.take (i := 26) (v := ?_) rfl (by kernel_rfl) (by kernel_rfl) (by kernel_rfl) (by kernel_rfl) (fun _ _ _ h => h) (Or.inl ⟨by rfl, ?_⟩) (by exact qs) ?_
      rotate_left
      focus
        intro w9 hSw
        try dsimp only at hSw
        go_simp
        try with_reducible rfl
      try simp only [Act.put, List.setIfInBounds_toArray, List.set_cons_zero, List.set_cons_succ]
      refine AnyK.take (i := 27) (v := ?_) rfl (by kernel_rfl) (by kernel_rfl) (by kernel_rfl) (by kernel_rfl) (fun _ _ _ h => h) (Or.inl ⟨by rfl, ?_⟩) (by exact qs) ?_
      rotate_left
      focus
        intro w9 hSw
        try dsimp only at hSw
        go_simp
        try with_reducible rfl
      try simp only [Act.put, List.setIfInBounds_toArray, List.set_cons_zero, List.set_cons_succ]
      refine AnyK.take (i := 28) (v := ?_) rfl (by kernel_rfl) (by kernel_rfl) (by kernel_rfl) (by kernel_rfl) (fun _ _ _ h => h) (Or.inl ⟨by rfl, ?_⟩) (by exact qs) ?_
      rotate_left
      focus
        intro w9 hSw
        try dsimp only at hSw
        go_simp
        try with_reducible rfl
      try simp only [Act.put, List.setIfInBounds_toArray, List.set_cons_zero, List.set_cons_succ]
      refine AnyK.two (i := 25) (j := 29) (by kernel_rfl) rfl rfl (fun K9 hK9 => ?_) (fun K9 hK9 => ?_)
      · go_simp
        refine ST2.out.mono ?_
        rintro e w' ⟨rfl, hw⟩
        have hw := hw.symm
        subst hw
        refine hK9.out _ _ (fun _ => qs) ?_
        clear hK9 K9
        try simp only [Act.put, List.setIfInBounds_toArray, List.set_cons_zero, List.set_cons_succ]
        refine AnyK.one (i := 29) (by kernel_rfl) rfl (fun K9 hK9 => ?_)
        go_simp
        refine hK9.out _ _ (fun _ => qs) ?_
        clear hK9 K9
        try simp only [Act.put, List.setIfInBounds_toArray, List.set_cons_zero, List.set_cons_succ]
        refine AnyK.one (i := 30) (by kernel_rfl) rfl (fun K9 hK9 => ?_)
        go_simp
        refine hK9.out _ _ (fun _ => qs) ?_
        clear hK9 K9
        try simp only [Act.put, List.setIfInBounds_toArray, List.set_cons_zero, List.set_cons_succ]
        refine AnyK.one (i := 31) (by kernel_rfl) rfl (fun K9 hK9 => ?_)
        go_simp
        refine hK9.out _ _ (fun _ => qs) ?_
        clear hK9 K9
        try simp only [Act.put, List.setIfInBounds_toArray, List.set_cons_zero, List.set_cons_succ]
        refine AnyK.one (i := 32) (by kernel_rfl) rfl (fun K9 hK9 => ?_)
        go_simp
        refine hK9.out _ _ (fun _ => qs) ?_
        clear hK9 K9
        try simp only [Act.put, List.setIfInBounds_toArray, List.set_cons_zero, List.set_cons_succ]
        refine AnyK.done (by kernel_rfl) ?_ _
        refine NoPanic.normal ?_
        go_wp2_with fail
        obtain ⟨oa, oc, hout, rfl⟩ := hY1 (by trivial)
        have h4 := HF.out
        obtain ⟨lr2, lrc2, HRR⟩ := H3H.out.openR 5 (t := 33) (b := rb) (cs := rnC (.slice pa ps.length pc) R') (et := 2) (n := R'.told.length) (us := R'.told.map (Value.int .i64)) rfl
        have HQ : Heap w z3 [nilP, cellP cb s', blkP B 25 #[.pointer (some ⟨ca, 0, none⟩)], blkP A 22 #[.slice pa ps.length pc], thP tb T', nilP, rowP 2 1 (.slice oa R'.told.length oc) R'.told.length (intC R'.told), blkP ca 28 (ceC s' (.slice la s'.log.length lc)), rowP 2 1 (.slice la s'.log.length lc) s'.log.length (s'.log.map (Value.int .i64)), blkP rb 33 (rnC (.slice pa ps.length pc) R' (.slice lr2 R'.told.length lrc2)), rowP 2 1 (.slice lr2 R'.told.length lrc2) R'.told.length (R'.told.map (Value.int .i64))] := HRR
        have q5 : z3.drew.cell? ⟨rb, 2, none⟩ = some (.slice lr2 R'.told.length lrc2) := (HQ.blk 9 rfl).cell 2
        have HQQ := Lib.hid HQ.drew
        have HLN : Hid (R'.told.length ≤ 1000000) := Lib.hid (by omega)
        clear HRR HQ h4
        refine wp_region_noPanic ?_
        refine AnyK.start (ks := []) (S := fun w' => w'.cell? ⟨rb, 2, none⟩ = some (.slice lr2 R'.told.length lrc2)) (by kernel_rfl) (by exact q5) (fun _ => ?_)
        refine AnyK.take (i := 0) (v := ?_) rfl (by kernel_rfl) (by kernel_rfl) (by kernel_rfl) (by kernel_rfl) (fun _ _ _ h => h) (Or.inl ⟨by rfl, ?_⟩) (by exact q5) ?_
        rotate_left
        focus
          intro w9 hSw
          try dsimp only at hSw
          go_simp
          try with_reducible rfl
        try simp only [Act.put, List.setIfInBounds_toArray, List.set_cons_zero, List.set_cons_succ]
        refine AnyK.take (i := 2) (v := ?_) rfl (by kernel_rfl) (by kernel_rfl) (by kernel_rfl) (by kernel_rfl) (fun _ _ _ h => h) (Or.inl ⟨by rfl, ?_⟩) (by exact q5) ?_
        rotate_left
        focus
          intro w9 hSw
          try dsimp only at hSw
          go_simp
          try with_reducible rfl
        try simp only [Act.put, List.setIfInBounds_toArray, List.set_cons_zero, List.set_cons_succ]
        refine AnyK.take (i := 3) (v := ?_) rfl (by kernel_rfl) (by kernel_rfl) (by kernel_rfl) (by kernel_rfl) (fun _ _ _ h => h) (Or.inl ⟨by rfl, ?_⟩) (by exact q5) ?_
        rotate_left
        focus
          intro w9 hSw
          try dsimp only at hSw
          go_simp
          try with_reducible rfl
        try simp only [Act.put, List.setIfInBounds_toArray, List.set_cons_zero, List.set_cons_succ]
        refine AnyK.take (i := 4) (v := ?_) rfl (by kernel_rfl) (by kernel_rfl) (by kernel_rfl) (by kernel_rfl) (fun _ _ _ h => h) (Or.inl ⟨by rfl, ?_⟩) (by exact q5) ?_
        rotate_left
        focus
          intro w9 hSw
          try dsimp only at hSw
          go_simp
          try with_reducible rfl
        try simp only [Act.put, List.setIfInBounds_toArray, List.set_cons_zero, List.set_cons_succ]
        refine AnyK.take (i := 5) (v := ?_) rfl (by kernel_rfl) (by kernel_rfl) (by kernel_rfl) (by kernel_rfl) (fun _ _ _ h => h) (Or.inl ⟨by rfl, ?_⟩) (by exact q5) ?_
        rotate_left
        focus
          intro w9 hSw
          try dsimp only at hSw
          go_simp
          try with_reducible rfl
        try simp only [Act.put, List.setIfInBounds_toArray, List.set_cons_zero, List.set_cons_succ]
        refine AnyK.one (i := 1) (by kernel_rfl) rfl (fun K9 hK9 => ?_)
        go_simp
        refine (Out_some HQQ.out 4 (tb := tb) (T := T') rfl hTd oa R'.told.length oc hout R'.told (HQQ.out.row 6 rfl).rdv HLN.out).mono ?_
        rintro e z4 ⟨a2, c2, rfl, H4⟩
        have q6 : z4.cell? ⟨rb, 2, none⟩ = some (.slice lr2 R'.told.length lrc2) := (H4.blk 9 rfl).cell 2
        refine hK9.out _ _ (fun _ => q6) ?_
        clear hK9 K9
        try simp only [Act.put, List.setIfInBounds_toArray, List.set_cons_zero, List.set_cons_succ]
        refine AnyK.one (i := 6) (by kernel_rfl) rfl (fun K9 hK9 => ?_)
        go_simp
        refine (same_yes _ _ R'.told _ (H4.row 11 rfl).rdv (H4.row 10 rfl).rdv).mono ?_
        rintro e z5 ⟨rfl, F5⟩
        have q7 := F5.cell' q6 (fun x => x)
        refine hK9.out _ _ (fun _ => q7) ?_
        clear hK9 K9
        try simp only [Act.put, List.setIfInBounds_toArray, List.set_cons_zero, List.set_cons_succ]
        refine AnyK.one (i := 7) (by kernel_rfl) rfl (fun K9 hK9 => ?_)
        go_simp
        refine hK9.out _ _ (fun _ => q7) ?_
        clear hK9 K9
        try simp only [Act.put, List.setIfInBounds_toArray, List.set_cons_zero, List.set_cons_succ]
        refine AnyK.done (by kernel_rfl) ?_ _
        refine NoPanic.normal ?_
        go_wp2_with fail
        go_ret
        exact ⟨rfl, (H4.go F5).below⟩
      · go_simp
        refine hK9.out _ _ (fun _ => qs) ?_
        clear hK9 K9
        try simp only [Act.put, List.setIfInBounds_toArray, List.set_cons_zero, List.set_cons_succ]
        refine AnyK.take (i := 30) (v := ?_) rfl (by kernel_rfl) (by kernel_rfl) (by kernel_rfl) (by kernel_rfl) (fun _ _ _ h => h) (Or.inl ⟨by rfl, ?_⟩) (by exact qs) ?_
        rotate_left
        focus
          intro w9 hSw
          try dsimp only at hSw
          go_simp
          try with_reducible rfl
        try simp only [Act.put, List.setIfInBounds_toArray, List.set_cons_zero, List.set_cons_succ]
        refine AnyK.one (i := 25) (by kernel_rfl) rfl (fun K9 hK9 => ?_)
        go_simp
        refine ST2.out.mono ?_
        rintro e w' ⟨rfl, hw⟩
        have hw := hw.symm
        subst hw
        refine hK9.out _ _ (fun _ => qs) ?_
        clear hK9 K9
        try simp only [Act.put, List.setIfInBounds_toArray, List.set_cons_zero, List.set_cons_succ]
        refine AnyK.one (i := 31) (by kernel_rfl) rfl (fun K9 hK9 => ?_)
        go_simp
        refine hK9.out _ _ (fun _ => qs) ?_
        clear hK9 K9
        try simp only [Act.put, List.setIfInBounds_toArray, List.set_cons_zero, List.set_cons_succ]
        refine AnyK.one (i := 32) (by kernel_rfl) rfl (fun K9 hK9 => ?_)
        go_simp
        refine hK9.out _ _ (fun _ => qs) ?_
        clear hK9 K9
        try simp only [Act.put, List.setIfInBounds_toArray, List.set_cons_zero, List.set_cons_succ]
        refine AnyK.done (by kernel_rfl) ?_ _
        refine NoPanic.normal ?_
        go_wp2_with fail
        obtain ⟨oa, oc, hout, rfl⟩ := hY1 (by trivial)
        have h4 := HF.out
        obtain ⟨lr2, lrc2, HRR⟩ := H3H.out.openR 5 (t := 33) (b := rb) (cs := rnC (.slice pa ps.length pc) R') (et := 2) (n := R'.told.length) (us := R'.told.map (Value.int .i64)) rfl
        have HQ : Heap w z3 [nilP, cellP cb s', blkP B 25 #[.pointer (some ⟨ca, 0, none⟩)], blkP A 22 #[.slice pa ps.length pc], thP tb T', nilP, rowP 2 1 (.slice oa R'.told.length oc) R'.told.length (intC R'.told), blkP ca 28 (ceC s' (.slice la s'.log.length lc)), rowP 2 1 (.slice la s'.log.length lc) s'.log.length (s'.log.map (Value.int .i64)), blkP rb 33 (rnC (.slice pa ps.length pc) R' (.slice lr2 R'.told.length lrc2)), rowP 2 1 (.slice lr2 R'.told.length lrc2) R'.told.length (R'.told.map (Value.int .i64))] := HRR
        have q5 : z3.drew.cell? ⟨rb, 2, none⟩ = some (.slice lr2 R'.told.length lrc2) := (HQ.blk 9 rfl).cell 2
        have HQQ := Lib.hid HQ.drew
        have HLN : Hid (R'.told.length ≤ 1000000) := Lib.hid (by omega)
        clear HRR HQ h4
        refine wp_region_noPanic ?_
        refine AnyK.start (ks := []) (S := fun w' => w'.cell? ⟨rb, 2, none⟩ = some (.slice lr2 R'.told.length lrc2)) (by kernel_rfl) (by exact q5) (fun _ => ?_)
        refine AnyK.take (i := 0) (v := ?_) rfl (by kernel_rfl) (by kernel_rfl) (by kernel_rfl) (by kernel_rfl) (fun _ _ _ h => h) (Or.inl ⟨by rfl, ?_⟩) (by exact q5) ?_
        rotate_left
        focus
          intro w9 hSw
          try dsimp only at hSw
          go_simp
          try with_reducible rfl
        try simp only [Act.put, List.setIfInBounds_toArray, List.set_cons_zero, List.set_cons_succ]
        refine AnyK.take (i := 2) (v := ?_) rfl (by kernel_rfl) (by kernel_rfl) (by kernel_rfl) (by kernel_rfl) (fun _ _ _ h => h) (Or.inl ⟨by rfl, ?_⟩) (by exact q5) ?_
        rotate_left
        focus
          intro w9 hSw
          try dsimp only at hSw
          go_simp
          try with_reducible rfl
        try simp only [Act.put, List.setIfInBounds_toArray, List.set_cons_zero, List.set_cons_succ]
        refine AnyK.take (i := 3) (v := ?_) rfl (by kernel_rfl) (by kernel_rfl) (by kernel_rfl) (by kernel_rfl) (fun _ _ _ h => h) (Or.inl ⟨by rfl, ?_⟩) (by exact q5) ?_
        rotate_left
        focus
          intro w9 hSw
          try dsimp only at hSw
          go_simp
          try with_reducible rfl
        try simp only [Act.put, List.setIfInBounds_toArray, List.set_cons_zero, List.set_cons_succ]
        refine AnyK.take (i := 4) (v := ?_) rfl (by kernel_rfl) (by kernel_rfl) (by kernel_rfl) (by kernel_rfl) (fun _ _ _ h => h) (Or.inl ⟨by rfl, ?_⟩) (by exact q5) ?_
        rotate_left
        focus
          intro w9 hSw
          try dsimp only at hSw
          go_simp
          try with_reducible rfl
        try simp only [Act.put, List.setIfInBounds_toArray, List.set_cons_zero, List.set_cons_succ]
        refine AnyK.take (i := 5) (v := ?_) rfl (by kernel_rfl) (by kernel_rfl) (by kernel_rfl) (by kernel_rfl) (fun _ _ _ h => h) (Or.inl ⟨by rfl, ?_⟩) (by exact q5) ?_
        rotate_left
        focus
          intro w9 hSw
          try dsimp only at hSw
          go_simp
          try with_reducible rfl
        try simp only [Act.put, List.setIfInBounds_toArray, List.set_cons_zero, List.set_cons_succ]
        refine AnyK.one (i := 1) (by kernel_rfl) rfl (fun K9 hK9 => ?_)
        go_simp
        refine (Out_some HQQ.out 4 (tb := tb) (T := T') rfl hTd oa R'.told.length oc hout R'.told (HQQ.out.row 6 rfl).rdv HLN.out).mono ?_
        rintro e z4 ⟨a2, c2, rfl, H4⟩
        have q6 : z4.cell? ⟨rb, 2, none⟩ = some (.slice lr2 R'.told.length lrc2) := (H4.blk 9 rfl).cell 2
        refine hK9.out _ _ (fun _ => q6) ?_
        clear hK9 K9
        try simp only [Act.put, List.setIfInBounds_toArray, List.set_cons_zero, List.set_cons_succ]
        refine AnyK.one (i := 6) (by kernel_rfl) rfl (fun K9 hK9 => ?_)
        go_simp
        refine (same_yes _ _ R'.told _ (H4.row 11 rfl).rdv (H4.row 10 rfl).rdv).mono ?_
        rintro e z5 ⟨rfl, F5⟩
        have q7 := F5.cell' q6 (fun x => x)
        refine hK9.out _ _ (fun _ => q7) ?_
        clear hK9 K9
        try simp only [Act.put, List.setIfInBounds_toArray, List.set_cons_zero, List.set_cons_succ]
        refine AnyK.one (i := 7) (by kernel_rfl) rfl (fun K9 hK9 => ?_)
        go_simp
        refine hK9.out _ _ (fun _ => q7) ?_
        clear hK9 K9
        try simp only [Act.put, List.setIfInBounds_toArray, List.set_cons_zero, List.set_cons_succ]
        refine AnyK.done (by kernel_rfl) ?_ _
        refine NoPanic.normal ?_
        go_wp2_with fail
        go_ret
        exact ⟨rfl, (H4.go F5).below⟩
end Go.Proofs.Ytblijgdmfohfcaa
