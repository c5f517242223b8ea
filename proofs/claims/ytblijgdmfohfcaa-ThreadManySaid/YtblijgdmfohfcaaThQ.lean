/- ThreadMany: an operation beside its runner, among others. No condition but that what is handed in can be read. -/
import Derived.Test.YtblijgdmfohfcaaWTh1
namespace Go.Proofs.Ytblijgdmfohfcaa
open Go Go.RowKit
set_option linter.unusedVariables false
set_option linter.unusedSimpArgs false
/-- An operation, its runner, and what it came to. -/
structure O1 where
  tb : Nat
  A : Nat
  B : Nat
  rb : Nat
  pv : Value
  ps : List Tc
  T : Th
  R : Rn
  Z : List Piece
def O1.L4 (ca : Nat) (o : O1) : List Piece := [blkP o.B 25 #[.pointer (some ⟨ca, 0, none⟩)], blkP o.A 22 #[o.pv], thP o.tb o.T, runP o.rb o.pv o.R]
def O1.L (ca : Nat) (o : O1) : List Piece := o.L4 ca ++ o.Z
def opP (ca : Nat) (o : O1) : Piece := manyP (o.L ca)
structure O1.ok (w0 : World) (k : Nat) (o : O1) : Prop where
  work : o.T.work = mkV o.A o.B
  log : o.T.log = o.R.told
  inv : RunI o.ps o.R
  rd : RdV w0 o.pv o.ps.length 2 (tcC o.ps)
  tc : ∀ x ∈ o.ps, x.ok
  len : o.ps.length ≤ 20
  few : o.R.told.length ≤ k ∧ o.R.at' ≤ 2 * k
  run : o.T.done = false → o.R.at' < o.ps.length ∧ o.Z = []
  over : o.T.done = true → o.ps.length ≤ o.R.at' ∧ ∃ a c, o.T.out = .slice a o.R.told.length c ∧ o.Z = [rowP 2 1 (.slice a o.R.told.length c) o.R.told.length (intC o.R.told)]
theorem O1.ok.more {w0 : World} {k : Nat} {o : O1} (h : o.ok w0 k) : o.ok w0 (k + 1) := ⟨h.work, h.log, h.inv, h.rd, h.tc, h.len, ⟨by have := h.few.1; omega, by have := h.few.2; omega⟩, h.run, h.over⟩
theorem rnNext_end {ps : List Tc} {R : Rn} {s : Ce} (h : (rnNext ps R s).1 = true) : ps.length ≤ (rnNext ps R s).2.1.at' := by
  unfold rnNext at h ⊢
  cases hx : ps[R.at']? with
  | none => rw [hx] at h; exact List.getElem?_eq_none_iff.1 hx
  | some x => rw [hx] at h; simpa using h
theorem rnNext_over {ps : List Tc} {R : Rn} (s : Ce) (h : ps.length ≤ R.at') : rnNext ps R s = (true, R, s) := by
  unfold rnNext
  rw [List.getElem?_eq_none h]
def tmPl (ca : Nat) (M : List Piece) (o : O1) : Pl Ce := { F := fun s T => (cellP ca s :: M) ++ ({ o with T := T } : O1).L4 ca, ti := M.length + 1 + 2, tb := o.tb, get := fun s T => by rw [List.getElem?_append_right (by simp)]; simp [O1.L4], put := fun s T T' => by rw [List.set_append_right _ _ (by simp)]; simp [O1.L4] }
def tmMk (ca : Nat) (M : List Piece) (o : O1) : MkPl (tmPl ca M o) ca o.A o.B o.pv := { ci := 0, ai := M.length + 1 + 1, bi := M.length + 1, cget := fun s T => by simp [tmPl], cput := fun s T s' => by simp [tmPl], aget := fun s T => by unfold tmPl; rw [List.getElem?_append_right (by simp)]; simp [O1.L4], bget := fun s T => by unfold tmPl; rw [List.getElem?_append_right (by simp)]; simp [O1.L4] }
section
variable {w0 w : World} {ca : Nat} {M : List Piece} {o : O1} {s : Ce} {k : Nat}
theorem Step_op (h : Heap w0 w ((cellP ca s :: M) ++ o.L ca)) (ok : o.ok w0 k) (hk : k ≤ 1000) (hs : s.log.length ≤ 900000) :
    Calls Try.prog 12 #[.pointer (some ⟨o.tb, 0, none⟩)] w fun e z => ∃ T' Z', e = .returned (.bool (rnNext o.ps o.R s).1) ∧ Heap w0 z ((cellP ca (rnNext o.ps o.R s).2.2 :: M) ++ ({ o with T := T', Z := Z' } : O1).L ca) ∧
      ({ o with T := T', Z := Z', R := (rnNext o.ps o.R s).2.1 } : O1).ok w0 (k + 1) ∧ T'.done = (rnNext o.ps o.R s).1 := by
  have hl := ok.len
  obtain ⟨f1, f2⟩ := ok.few
  cases hd : o.T.done with
  | true =>
    have hov := ok.over hd
    rw [rnNext_over s hov.1]
    refine (Step_over h (M.length + 1 + 2) (tb := o.tb) (T := o.T) (by rw [List.getElem?_append_right (by simp)]; simp [O1.L, O1.L4]) hd).mono ?_
    rintro e z ⟨rfl, rfl⟩
    exact ⟨o.T, o.Z, rfl, h, ok.more, hd⟩
  | false =>
    obtain ⟨hr, hz⟩ := ok.run hd
    have h1 : Heap w0 w ((tmPl ca M o).F s o.T) := by
      have e : o.L ca = o.L4 ca := by unfold O1.L; rw [hz, List.append_nil]
      rw [e] at h
      exact h
    refine (Step_mk (tmMk ca M o) h1 ok.work hd ok.log ok.inv ok.tc ok.rd (by omega) hs (by omega)).mono ?_
    rintro e z ⟨T', Y, rfl, H, hw, hlg, hdn, y0, y1⟩
    refine ⟨T', Y, rfl, ?_, ⟨hw, hlg, ok.inv.next s, ok.rd, ok.tc, ok.len, ⟨?_, ?_⟩, fun x => ?_, fun x => ?_⟩, hdn⟩
    · change Heap w0 z (((cellP ca _ :: M) ++ ({ o with T := T' } : O1).L4 ca) ++ Y) at H
      rw [List.append_assoc] at H
      exact H
    · have := (rnNext_few o.ps o.R s).2.1; dsimp only; omega
    · have := (rnNext_few o.ps o.R s).2.2; dsimp only; omega
    · have hx : (rnNext o.ps o.R s).1 = false := hdn.symm.trans x
      exact ⟨(rnNext_at hx).1, y0 hx⟩
    · have hx : (rnNext o.ps o.R s).1 = true := hdn.symm.trans x
      obtain ⟨a, c, e1, e2⟩ := y1 hx
      exact ⟨rnNext_end hx, a, c, e1, e2⟩
theorem Next_op {cb : Nat} {s1 : Ce} (h : Heap w0 w ((cellP ca s1 :: cellP cb s :: M) ++ o.L ca)) (hps : ∀ x ∈ o.ps, x.ok) (R : RdV w0 o.pv o.ps.length 2 (tcC o.ps)) (hl : o.ps.length ≤ 20) (hf : o.R.told.length ≤ k ∧ o.R.at' ≤ 2 * k) (hk : k ≤ 1000) (hs : s.log.length ≤ 900000) :
    Calls Try.prog 13 #[.pointer (some ⟨o.rb, 0, none⟩), .pointer (some ⟨cb, 0, none⟩)] w fun e z => e = .returned (.bool (rnNext o.ps o.R s).1) ∧ Heap w0 z ((cellP ca s1 :: cellP cb (rnNext o.ps o.R s).2.2 :: M) ++ ({ o with R := (rnNext o.ps o.R s).2.1 } : O1).L ca) := by
  refine (Next_h h (M.length + 2 + 3) 1 (by omega) o.pv (r := o.R) (by rw [List.getElem?_append_right (by simp)]; simp [O1.L, O1.L4]) rfl o.ps hps R (by omega) (by omega) (by omega) (by omega)).mono ?_
  rintro e z ⟨rfl, H⟩
  refine ⟨rfl, ?_⟩
  have e : (((cellP ca s1 :: cellP cb s :: M) ++ o.L ca).set (M.length + 2 + 3) (runP o.rb o.pv (rnNext o.ps o.R s).2.1)).set 1 (cellP cb (rnNext o.ps o.R s).2.2) = (cellP ca s1 :: cellP cb (rnNext o.ps o.R s).2.2 :: M) ++ ({ o with R := (rnNext o.ps o.R s).2.1 } : O1).L ca := by
    rw [List.set_append_right _ _ (by simp)]
    simp [O1.L, O1.L4]
  rwa [e] at H
theorem Steps_op (h : Heap w0 w ((cellP ca s :: M) ++ o.L ca)) : Calls Try.prog 16 #[.pointer (some ⟨o.tb, 0, none⟩)] w fun e w' => e = .returned (.int .i64 (o.T.log.length : Nat)) ∧ w' = w :=
  Steps_h h (M.length + 1 + 2) (tb := o.tb) (T := o.T) (by rw [List.getElem?_append_right (by simp)]; simp [O1.L, O1.L4])
theorem Done_op (h : Heap w0 w ((cellP ca s :: M) ++ o.L ca)) (hw : o.T.work = mkV o.A o.B) : Calls Try.prog 14 #[.pointer (some ⟨o.tb, 0, none⟩)] w fun e w' => e = .returned (.bool o.T.done) ∧ w' = w :=
  Done_h h (M.length + 1 + 2) (tb := o.tb) (T := o.T) (by rw [List.getElem?_append_right (by simp)]; simp [O1.L, O1.L4]) 33 #[] #[.pointer (some ⟨o.A, 0, none⟩), .pointer (some ⟨o.B, 0, none⟩)] hw
theorem Out_fr {l : List Piece} {tb : Nat} {T : Th} (h : Heap w0 w l) (i : Nat) (hi : l[i]? = some (thP tb T)) (hdone : T.done = true) (a1 : Option Addr) (n c1 : Nat) (hout : T.out = .slice a1 n c1) (us : List Int) (R : RdV w (.slice a1 n c1) n 1 (us.map (Value.int .i64))) (hn : n ≤ 1000000) :
    Calls Try.prog 17 #[.pointer (some ⟨tb, 0, none⟩)] w fun e w' => ∃ a2 c2, e = .returned (.slice a2 n c2) ∧ RdV w' (.slice a2 n c2) n 1 (us.map (Value.int .i64)) ∧ Fr nob w w' := by
  obtain ⟨a, c, H0⟩ := h.openTh i hi
  have c5 : w.cell? ⟨tb, 5, none⟩ = some (.bool true) := by rw [← hdone]; exact H0.thBlk.cell 5
  have c6 : w.cell? ⟨tb, 6, none⟩ = some (.slice a1 n c1) := by rw [← hout]; exact H0.thBlk.cell 6
  obtain ⟨i0, hi0, hz0, hz1, hz2⟩ := info_parts info_i64t
  have I0 := Lib.hid (And.intro hi0 (And.intro hz0 (And.intro hz1 hz2)))
  have lt := H0.thBlk.lt
  have hlm : 0 + n ≤ maxLen := by unfold maxLen; omega
  have hlb : (0 + n) * 8 ≤ 140737488355328 := by omega
  have HL := Lib.hid (And.intro hlm hlb)
  have RR := Lib.hid R
  have HH := Lib.hid h
  clear h H0 hi0 hz0 hz1 hz2 hlm hlb R
  go_enter Try.func17, Try.ntmps17
  go_wp2_with (at_builtin; refine wpList_append_typed _ rfl _ _ _ (by rfl) 2 i0 (.int .i64 0) 1 8 Try.underlying26 I0.out.1 I0.out.2.1 I0.out.2.2.1 I0.out.2.2.2 rfl (by decide) (.slice (some ⟨w.heap.size, 0, none⟩) 0 0) 0 [] (by rfl) (QRow.none0 _ _) (.slice a1 n c1) n (us.map (Value.int .i64)) (by rfl) (RR.out.fr (S := nob) ((Fr.refl nob w).alloc _) (fun _ _ _ x => x)) (by intro u hu; obtain ⟨x, _, rfl⟩ := List.mem_map.1 hu; rfl) HL.out.1 HL.out.2 ?_)
  intro a2 c2 w2 q2 grow2 hat2
  have f2 : Fr nob w w2 := Fr.grown (by repeat (first | exact Fr.refl _ _ | apply Fr.drew | apply Fr.alloc)) grow2 (fun k hk => .inr (by simp [Value.ownBlock] at hk; omega))
  have q3 := q2.rdv
  go_wp2_with fail
  go_ret
  exact ⟨a2, c2, rfl, q3, f2⟩
theorem Out_op (h : Heap w0 w ((cellP ca s :: M) ++ o.L ca)) (ok : o.ok w0 k) (hd : o.T.done = true) (hk : k ≤ 1000) :
    Calls Try.prog 17 #[.pointer (some ⟨o.tb, 0, none⟩)] w fun e w' => ∃ a2 c2, e = .returned (.slice a2 o.R.told.length c2) ∧ RdV w' (.slice a2 o.R.told.length c2) o.R.told.length 1 (intC o.R.told) ∧ Fr nob w w' := by
  obtain ⟨_, a, c, e1, e2⟩ := ok.over hd
  have f1 := ok.few.1
  exact Out_fr h (M.length + 1 + 2) (tb := o.tb) (T := o.T) (by rw [List.getElem?_append_right (by simp)]; simp [O1.L, O1.L4]) hd a o.R.told.length c e1 o.R.told (h.row (M.length + 1 + 4) (t := 2) (sz := 1) (n := o.R.told.length) (v := .slice a o.R.told.length c) (us := intC o.R.told) (by rw [List.getElem?_append_right (by simp)]; simp [O1.L, O1.L4, e2])).rdv (by omega)
/-- What the runner was told lies in memory. -/
theorem told_op (h : Heap w0 w ((cellP ca s :: M) ++ o.L ca)) : ∃ a c, w.cell? ⟨o.rb, 2, none⟩ = some (.slice a o.R.told.length c) ∧ RdV w (.slice a o.R.told.length c) o.R.told.length 1 (intC o.R.told) := by
  obtain ⟨a, c, H⟩ := h.openR (M.length + 1 + 3) (b := o.rb) (t := 33) (cs := rnC o.pv o.R) (et := 2) (n := o.R.told.length) (us := o.R.told.map (Value.int .i64)) (by rw [List.getElem?_append_right (by simp)]; simp [O1.L, O1.L4, runP])
  exact ⟨a, c, H.rBlk.cell 2, H.rRow.rdv⟩
/-- What a cell tells. -/
theorem cell_op {l : List Piece} (h : Heap w0 w l) (i : Nat) {cb : Nat} (hi : l[i]? = some (cellP cb s)) : ∃ a c, w.cell? ⟨cb, 0, none⟩ = some (.int .i64 s.n) ∧ w.cell? ⟨cb, 1, none⟩ = some (.slice a s.log.length c) ∧ RdV w (.slice a s.log.length c) s.log.length 1 (intC s.log) := by
  obtain ⟨a, c, H⟩ := h.openR i (b := cb) (t := 28) (cs := ceC s) (et := 2) (n := s.log.length) (us := s.log.map (Value.int .i64)) hi
  exact ⟨a, c, H.rBlk.cell 0, H.rBlk.cell 1, H.rRow.rdv⟩
end
end Go.Proofs.Ytblijgdmfohfcaa
