/- The laws' same, of equal numbers: yes. A runner in memory: what Next makes of it and of the cell. No condition but the bounds of size. -/
import Derived.Test.YtblijgdmfohfcaaThF
import Derived.Test.YtblijgdmfohfcaaK1
namespace Go.Proofs.Ytblijgdmfohfcaa
open Go Go.RowKit
set_option linter.unusedVariables false
set_option linter.unusedSimpArgs false
theorem intC_at' (l : List Int) (k : Nat) (x : Int) (h : l[k]? = some x) : (intC l)[k]? = some (.int .i64 x) := by
  simp only [intC, List.getElem?_map, h, Option.map_some]
set_option maxHeartbeats 1600000 in
theorem same_yes (k1 k2 : Value) (ks : List Int) (w : World) (h1 : RdV w k1 ks.length 1 (intC ks)) (h3 : RdV w k2 ks.length 1 (intC ks)) :
    Calls Try.prog 15 #[k1, k2] w fun e w' => e = .returned (.bool true) ∧ Fr nob w w' := by
  have hm := h1.short
  unfold maxLen at hm
  obtain ⟨a1, c1, rfl⟩ := h1.len
  obtain ⟨a3, c3, rfl⟩ := h3.len
  have R1 := Lib.hid h1
  have R3 := Lib.hid h3
  clear h1 h3
  go_enter Try.func15, Try.ntmps15
  go_wp2_with fail
  go_loopw [13] (fun i wr => ∃ (k n : Nat), k ≤ ks.length ∧ i = .int .i64 k ∧ wr = w.drewN n) (fun i _ => ks.length - (intOf i).toNat)
  case atStart => exact ⟨0, 0, Nat.zero_le _, rfl, rfl⟩
  case round =>
    obtain ⟨k, n, hk, rfl, rfl⟩ := hrel
    by_cases hlt : k < ks.length
    · obtain ⟨p, hp⟩ : ∃ p, ks[k]? = some p := ⟨_, List.getElem?_eq_getElem hlt⟩
      obtain ⟨b1, rfl, hc1, hat1⟩ := R1.out.at (by omega)
      obtain ⟨b2, rfl, hc2, hat2⟩ := R3.out.at (by omega)
      have y1 := hat1 _ _ (intC_at' _ _ _ hp)
      have y2 := hat2 _ _ (intC_at' _ _ _ hp)
      clear hat1 hat2 hp
      go_wp2_with fail
      go_quiet (fail)
      go_wp2_with fail
      exact ⟨⟨k + 1, _, by omega, by go_num, rfl⟩, by simp [intOf]; omega⟩
    · go_wp2_with fail
      go_ret
      exact ⟨rfl, (Fr.refl nob w).drewN n⟩
def tcC (ps : List Tc) : List Value := ps.flatMap fun x => [.int .u8 x.d, .int .i8 x.k]
theorem tcC_length (ps : List Tc) : (tcC ps).length = ps.length * 2 := by
  induction ps with
  | nil => rfl
  | cons x l ih => simp only [tcC, List.flatMap_cons, List.length_append, List.length_cons, List.length_nil] at ih ⊢; omega
theorem tcC_get : ∀ (ps : List Tc) (i : Nat) (x : Tc), ps[i]? = some x → (tcC ps)[i * 2]? = some (.int .u8 x.d) ∧ (tcC ps)[i * 2 + 1]? = some (.int .i8 x.k)
  | [], i, x, h => by simp at h
  | y :: l, 0, x, h => by
    simp at h; subst h
    exact ⟨rfl, rfl⟩
  | y :: l, i + 1, x, h => by
    simp at h
    have := tcC_get l i x h
    have e : tcC (y :: l) = [.int .u8 y.d, .int .i8 y.k] ++ tcC l := rfl
    rw [e, List.getElem?_append_right (by simp; omega), List.getElem?_append_right (by simp; omega)]
    simpa [show (i + 1) * 2 - 2 = i * 2 from by omega, show (i + 1) * 2 + 1 - 2 = i * 2 + 1 from by omega] using this
theorem tc_field (a : Addr) (n j : Nat) : a.add (n + (j + 1)) = ⟨(a.add n).block, (a.add n).off + (j + 1), none⟩ := by
  unfold Addr.add
  rw [if_neg (by omega)]
  split
  · simp_all
  · simp; omega
theorem th_set_id {α : Type} (l : List α) (i : Nat) (x : α) (h : l[i]? = some x) : l.set i x = l := by
  obtain ⟨hi, rfl⟩ := List.getElem?_eq_some_iff.1 h
  exact List.set_getElem_self hi
def Tc.ok (x : Tc) : Prop := (0 ≤ x.d ∧ x.d ≤ 255) ∧ (-128 ≤ x.k ∧ x.k ≤ 127)
/-- A runner: how far it is, what it was told. -/
structure Rn where
  at' : Nat
  told : List Int
def rnC (pv : Value) (r : Rn) (lv : Value) : Array Value := #[pv, .int .i64 (r.at' : Nat), lv]
def runP (b : Nat) (pv : Value) (r : Rn) : Piece := rowedP b 33 (rnC pv r) 2 r.told.length (r.told.map (Value.int .i64))
def rnNext (ps : List Tc) (r : Rn) (s : Ce) : Bool × Rn × Ce := match ps[r.at']? with
  | some x => (decide (ps.length ≤ r.at' + (if s.n.tmod 2 = 0 then 1 else 2)), ⟨r.at' + (if s.n.tmod 2 = 0 then 1 else 2), r.told ++ [s.n]⟩, (ceDone x s).2)
  | none => (true, r, s)
set_option maxHeartbeats 8000000 in
set_option maxRecDepth 100000 in
theorem Next_h {w0 w : World} {l : List Piece} {rb cb : Nat} {r : Rn} {s : Ce} (h : Heap w0 w l) (i j : Nat) (hij : i ≠ j) (pv : Value) (hi : l[i]? = some (runP rb pv r)) (hj : l[j]? = some (cellP cb s)) (ps : List Tc) (hps : ∀ x ∈ ps, x.ok)
    (R : RdV w0 pv ps.length 2 (tcC ps)) (hat : r.at' ≤ 10000) (hrl : r.told.length ≤ 10000) (hcl : s.log.length ≤ 1000000) (hlen : ps.length ≤ 10000) :
    Calls Try.prog 13 #[.pointer (some ⟨rb, 0, none⟩), .pointer (some ⟨cb, 0, none⟩)] w fun e w' => e = .returned (.bool (rnNext ps r s).1) ∧ Heap w0 w' ((l.set i (runP rb pv (rnNext ps r s).2.1)).set j (cellP cb (rnNext ps r s).2.2)) := by
  have hil := (List.getElem?_eq_some_iff.1 hi).1
  have hjl := (List.getElem?_eq_some_iff.1 hj).1
  obtain ⟨pa, pc, rfl⟩ := R.len
  have RC : ∀ z, Heap w0 z l → z.cell? ⟨rb, 0, none⟩ = some (.slice pa ps.length pc) ∧ z.cell? ⟨rb, 1, none⟩ = some (.int .i64 (r.at' : Nat)) := fun z hz => by
    obtain ⟨_, _, H0⟩ := hz.openR i hi
    exact ⟨H0.rBlk.cell 0, H0.rBlk.cell 1⟩
  obtain ⟨c0, c1⟩ := RC w h
  by_cases hlt : r.at' < ps.length
  · obtain ⟨x, hx0⟩ : ∃ x, ps[r.at']? = some x := ⟨_, List.getElem?_eq_getElem hlt⟩
    have hx := hps x (List.mem_of_getElem? hx0)
    obtain ⟨b1, rfl, hc1, hat1⟩ := R.at (by omega)
    have Q3 : ∀ z, Heap w0 z (l.set j (cellP cb (ceDone x s).2)) → z.cell? ⟨rb, 0, none⟩ = some (.slice (some b1) ps.length pc) ∧ z.cell? ⟨rb, 1, none⟩ = some (.int .i64 (r.at' : Nat)) ∧ z.cell? (b1.add (r.at' * 2)) = some (.int .u8 x.d) ∧ z.cell? ⟨(b1.add (r.at' * 2)).block, (b1.add (r.at' * 2)).off + 1, none⟩ = some (.int .i8 x.k) := fun z hz => by
      obtain ⟨_, _, H0⟩ := hz.openR i (by rw [List.getElem?_set_ne (fun x => hij x.symm)]; exact hi)
      obtain ⟨b2, eb, _, hat2⟩ := (R.fr hz.fr (fun _ _ _ (x : nob _) => x)).at (by omega)
      obtain rfl := Option.some.inj eb
      have y0 := hat2 _ _ (tcC_get ps _ x hx0).1
      have y1 := hat2 _ _ (tcC_get ps _ x hx0).2
      rw [tc_field] at y1
      exact ⟨H0.rBlk.cell 0, H0.rBlk.cell 1, y0, y1⟩
    have q : w.cell? (b1.add (r.at' * 2)) = some (.int .u8 x.d) ∧ w.cell? ⟨(b1.add (r.at' * 2)).block, (b1.add (r.at' * 2)).off + 1, none⟩ = some (.int .i8 x.k) := by
      obtain ⟨b2, eb, _, hat2⟩ := (R.fr h.fr (fun _ _ _ (x : nob _) => x)).at (by omega)
      obtain rfl := Option.some.inj eb
      have y0 := hat2 _ _ (tcC_get ps _ x hx0).1
      have y1 := hat2 _ _ (tcC_get ps _ x hx0).2
      rw [tc_field] at y1
      exact ⟨y0, y1⟩
    obtain ⟨c2, c3⟩ := q
    have HH := Lib.hid h
    have HX := Lib.hid hx0
    obtain ⟨i0, hi0, hz0, hz1, hz2⟩ := info_parts info_i64t
    have I0 := Lib.hid (And.intro hi0 (And.intro hz0 (And.intro hz1 hz2)))
    have hlm' : r.told.length + 1 ≤ maxLen := by unfold maxLen; omega
    have hlb : (r.told.length + 1) * 8 ≤ 140737488355328 := by omega
    have HL := Lib.hid (And.intro hlm' hlb)
    have QQ3 := Lib.hid Q3
    clear h hx0 RC R hat1 hi0 hz0 hz1 hz2 hlm' hlb Q3
    have HPS := Lib.hid hps
    clear hps
    go_enter Try.func13, Try.ntmps13
    go_wp2_with fail
    go_quiet (fail)
    go_upto_region 2 with fail
    generalize hW : w.drewN nq = W at *
    have H1 := hW ▸ (HH.out.drewN nq)
    have Q3 := QQ3.out
    have q0 : W.drew.cell? ⟨rb, 0, none⟩ = some (.slice (some b1) ps.length pc) ∧ W.drew.cell? ⟨rb, 1, none⟩ = some (.int .i64 (r.at' : Nat)) ∧ W.drew.cell? (b1.add (r.at' * 2)) = some (.int .u8 x.d) ∧ W.drew.cell? ⟨(b1.add (r.at' * 2)).block, (b1.add (r.at' * 2)).off + 1, none⟩ = some (.int .i8 x.k) := by rw [← hW]; exact ⟨c0, c1, c2, c3⟩
    clear hW
    refine wp_region_noPanic ?_
    refine AnyK.start (ks := []) (S := fun w' => w'.cell? ⟨rb, 0, none⟩ = some (.slice (some b1) ps.length pc) ∧ w'.cell? ⟨rb, 1, none⟩ = some (.int .i64 (r.at' : Nat)) ∧ w'.cell? (b1.add (r.at' * 2)) = some (.int .u8 x.d) ∧ w'.cell? ⟨(b1.add (r.at' * 2)).block, (b1.add (r.at' * 2)).off + 1, none⟩ = some (.int .i8 x.k)) (by kernel_rfl) (by exact q0) (fun _ => ?_)
    have H1d := H1.drew
    refine AnyK.take (i := 0) (v := ?_) rfl (by kernel_rfl) (by kernel_rfl) (by kernel_rfl) (by kernel_rfl) (fun _ _ _ h => h) (Or.inl ⟨by rfl, ?_⟩) (by exact q0) ?_
    rotate_left
    focus
      intro w9 hSw
      try dsimp only at hSw
      go_simp
      try with_reducible rfl
    try simp only [Act.put, List.setIfInBounds_toArray, List.set_cons_zero, List.set_cons_succ]
    refine AnyK.take (i := 1) (v := ?_) rfl (by kernel_rfl) (by kernel_rfl) (by kernel_rfl) (by kernel_rfl) (fun _ _ _ h => h) (Or.inl ⟨by rfl, ?_⟩) (by exact q0) ?_
    rotate_left
    focus
      intro w9 hSw
      try dsimp only at hSw
      go_simp
      try with_reducible rfl
    try simp only [Act.put, List.setIfInBounds_toArray, List.set_cons_zero, List.set_cons_succ]
    refine AnyK.take (i := 2) (v := ?_) rfl (by kernel_rfl) (by kernel_rfl) (by kernel_rfl) (by kernel_rfl) (fun _ _ _ h => h) (Or.inl ⟨by rfl, ?_⟩) (by exact q0) ?_
    rotate_left
    focus
      intro w9 hSw
      try dsimp only at hSw
      go_simp
      try with_reducible rfl
    try simp only [Act.put, List.setIfInBounds_toArray, List.set_cons_zero, List.set_cons_succ]
    refine AnyK.take (i := 3) (v := ?_) rfl (by kernel_rfl) (by kernel_rfl) (by kernel_rfl) (by kernel_rfl) (fun _ _ _ h => h) (Or.inl ⟨by rfl, ?_⟩) (by exact q0) ?_
    rotate_left
    focus
      intro w9 hSw
      try dsimp only at hSw
      go_simp
      try with_reducible rfl
    try simp only [Act.put, List.setIfInBounds_toArray, List.set_cons_zero, List.set_cons_succ]
    refine AnyK.take (i := 4) (v := ?_) rfl (by kernel_rfl) (by kernel_rfl) (by kernel_rfl) (by kernel_rfl) (fun _ _ _ h => h) (Or.inl ⟨by rfl, ?_⟩) (by exact q0) ?_
    rotate_left
    focus
      intro w9 hSw
      try dsimp only at hSw
      go_simp
      try with_reducible rfl
    try simp only [Act.put, List.setIfInBounds_toArray, List.set_cons_zero, List.set_cons_succ]
    refine AnyK.take (i := 5) (v := ?_) rfl (by kernel_rfl) (by kernel_rfl) (by kernel_rfl) (by kernel_rfl) (fun _ _ _ h => h) (Or.inl ⟨by rfl, ?_⟩) (by exact q0) ?_
    rotate_left
    focus
      intro w9 hSw
      try dsimp only at hSw
      go_simp
      try with_reducible rfl
    try simp only [Act.put, List.setIfInBounds_toArray, List.set_cons_zero, List.set_cons_succ]
    refine AnyK.take (i := 6) (v := ?_) rfl (by kernel_rfl) (by kernel_rfl) (by kernel_rfl) (by kernel_rfl) (fun _ _ _ h => h) (Or.inl ⟨by rfl, ?_⟩) (by exact q0) ?_
    rotate_left
    focus
      intro w9 hSw
      try dsimp only at hSw
      go_simp
      try with_reducible rfl
    try simp only [Act.put, List.setIfInBounds_toArray, List.set_cons_zero, List.set_cons_succ]
    refine AnyK.take (i := 7) (v := ?_) rfl (by kernel_rfl) (by kernel_rfl) (by kernel_rfl) (by kernel_rfl) (fun _ _ _ h => h) (Or.inl ⟨by rfl, ?_⟩) (by exact q0) ?_
    rotate_left
    focus
      intro w9 hSw
      try dsimp only at hSw
      go_simp
      try with_reducible rfl
    try simp only [Act.put, List.setIfInBounds_toArray, List.set_cons_zero, List.set_cons_succ]
    refine AnyK.take (i := 8) (v := ?_) rfl (by kernel_rfl) (by kernel_rfl) (by kernel_rfl) (by kernel_rfl) (fun _ _ _ h => h) (Or.inl ⟨by rfl, ?_⟩) (by exact q0) ?_
    rotate_left
    focus
      intro w9 hSw
      try dsimp only at hSw
      go_simp
      try with_reducible rfl
    try simp only [Act.put, List.setIfInBounds_toArray, List.set_cons_zero, List.set_cons_succ]
    refine AnyK.take (i := 9) (v := ?_) rfl (by kernel_rfl) (by kernel_rfl) (by kernel_rfl) (by kernel_rfl) (fun _ _ _ h => h) (Or.inl ⟨by rfl, ?_⟩) (by exact q0) ?_
    rotate_left
    focus
      intro w9 hSw
      try dsimp only at hSw
      go_simp
      try with_reducible rfl
    try simp only [Act.put, List.setIfInBounds_toArray, List.set_cons_zero, List.set_cons_succ]
    refine AnyK.take (i := 10) (v := ?_) rfl (by kernel_rfl) (by kernel_rfl) (by kernel_rfl) (by kernel_rfl) (fun _ _ _ h => h) (Or.inl ⟨by rfl, ?_⟩) (by exact q0) ?_
    rotate_left
    focus
      intro w9 hSw
      try dsimp only at hSw
      go_simp
      try with_reducible rfl
    try simp only [Act.put, List.setIfInBounds_toArray, List.set_cons_zero, List.set_cons_succ]
    refine AnyK.one (i := 11) (by kernel_rfl) rfl (fun K9 hK9 => ?_)
    go_simp
    refine (CDone_h H1d j hj x hx.1 hx.2 hcl).mono ?_
    rintro e w3 ⟨rfl, H3⟩
    have q3 := Q3 w3 H3
    refine hK9.out _ _ (fun _ => q3) ?_
    clear hK9 K9
    try simp only [Act.put, List.setIfInBounds_toArray, List.set_cons_zero, List.set_cons_succ]
    refine AnyK.one (i := 12) (by kernel_rfl) rfl (fun K9 hK9 => ?_)
    go_simp
    refine hK9.out _ _ (fun _ => q3) ?_
    clear hK9 K9
    try simp only [Act.put, List.setIfInBounds_toArray, List.set_cons_zero, List.set_cons_succ]
    refine AnyK.done (by kernel_rfl) ?_ _
    refine NoPanic.normal ?_
    have H3i := H3.openR i (t := 33) (b := rb) (cs := rnC (.slice (some b1) ps.length pc) r) (et := 2) (n := r.told.length) (us := r.told.map (Value.int .i64)) (by rw [List.getElem?_set_ne (fun x => hij x.symm)]; exact hi)
    obtain ⟨ra, rc, H4⟩ := H3i
    have d1 : w3.cell? ⟨rb, 1, none⟩ = some (.int .i64 (r.at' : Nat)) := H4.rBlk.cell 1
    have d2 : w3.cell? ⟨rb, 2, none⟩ = some (.slice ra r.told.length rc) := H4.rBlk.cell 2
    have z1 := H4.rBlk.froz 1
    have z2 := H4.rBlk.froz 2
    have lt := H4.rBlk.lt
    have HA := Lib.hid (H4.rApart (by decide))
    have QQ := Lib.hid H4.rRow
    have HH3 := Lib.hid H4
    obtain ⟨d0, _, _, _⟩ := q3
    clear H3 H4 H1d QQ3 Q3 q0 c0 c1 c2 c3 H1 HH
    go_wp2_with (at_builtin; refine wpList_append_typed _ rfl _ _ _ (by rfl) 2 i0 (.int .i64 0) 1 8 Try.underlying26 I0.out.1 I0.out.2.1 I0.out.2.2.1 I0.out.2.2.2 rfl (by decide) (.slice ra r.told.length rc) r.told.length (r.told.map (Value.int .i64)) (by rfl) (QQ.out.fr (F := nob) (by repeat (first | exact Fr.refl _ _ | apply Fr.drew | apply Fr.alloc)) (fun _ _ _ x => x)) _ 1 [.int .i64 s.n] (by rfl) (RdV.block (cs := #[.int .i64 s.n]) (t := 2) (by repeat (first | exact Blk.new' rfl _ _ | apply Blk.drew | apply Blk.alloc)) rfl (by decide)) (by simp [Value.oneCell']) HL.out.1 HL.out.2 ?_)
    intro a' c' w' q' grow hat
    have f7 : Fr (fun j => (Value.slice ra r.told.length rc).ownBlock = some j) w3 w' := Fr.grown (by repeat (first | exact Fr.refl _ _ | apply Fr.drew | apply Fr.alloc)) grow (fun k hk => .inl hk)
    have y0 := f7.cell' d0 HA.out
    have y1 := f7.cell' d1 HA.out
    have y2 := f7.cell' d2 HA.out
    have v1 := f7.froz' d1 z1 HA.out
    have v2 := f7.froz' d2 z2 HA.out
    clear d0 d1 d2 z1 z2
    by_cases he : s.n.tmod 2 = 0
    · have GF := ((HH3.out.rGrow (o := 2) (Fr.alloc (Fr.refl nob w3) (.cells #[.int .i64 s.n] 2)) q' grow (fun g hg => (hat g hg).imp_left (fun h => h.imp_right (fun h => by simpa using h))) rfl).rSet 1 (.int .i64 ((r.at' : Int) + 1)) (rnC (.slice (some b1) ps.length pc) ⟨r.at' + 1, r.told ++ [s.n]⟩) rfl)
      clear HH3 q' grow hat f7
      go_upto_region 7 with fail
      generalize ((w'.setCell ⟨rb, 2, none⟩ (.slice a' (r.told.length + 1) c')).setCell ⟨rb, 1, none⟩ (.int .i64 ((r.at' : Int) + 1))) = WW at *
      have k0 : WW.cell? ⟨rb, 0, none⟩ = some (.slice (some b1) ps.length pc) := GF.rBlk.cell 0
      have k1 : WW.cell? ⟨rb, 1, none⟩ = some (.int .i64 ((r.at' : Int) + 1)) := GF.rBlk.cell 1
      have GG := Lib.hid (GF.shutR (by rw [List.length_set]; exact hil))
      clear GF
      have hkk : decide ((r.at' : Int) + 1 ≥ (ps.length : Int)) = decide (ps.length ≤ r.at' + 1) := by congr 1; simp; omega
      go_quiet (fail)
      go_wp2_with fail
      go_ret
      refine ⟨?_, ?_⟩
      · exact ret_bool (by simp [rnNext, HX.out, he] <;> omega)
      · have h := GG.out.drewN nq
        have e : rnNext ps r s = (decide (ps.length ≤ r.at' + 1), ⟨r.at' + 1, r.told ++ [s.n]⟩, (ceDone x s).2) := by simp [rnNext, HX.out, he]
        rw [e]
        rw [List.set_comm _ _ hij]
        simpa [runP] using h
    · have GF := ((HH3.out.rGrow (o := 2) (Fr.alloc (Fr.refl nob w3) (.cells #[.int .i64 s.n] 2)) q' grow (fun g hg => (hat g hg).imp_left (fun h => h.imp_right (fun h => by simpa using h))) rfl).rSet 1 (.int .i64 ((r.at' : Int) + 1)) (rnC (.slice (some b1) ps.length pc) ⟨r.at' + 1, r.told ++ [s.n]⟩) rfl)
      have GF := GF.rSet 1 (.int .i64 ((r.at' : Int) + 1 + 1)) (rnC (.slice (some b1) ps.length pc) ⟨r.at' + 1 + 1, r.told ++ [s.n]⟩) rfl
      clear HH3 q' grow hat f7
      go_upto_region 7 with fail
      generalize (((w'.setCell ⟨rb, 2, none⟩ (.slice a' (r.told.length + 1) c')).setCell ⟨rb, 1, none⟩ (.int .i64 ((r.at' : Int) + 1))).setCell ⟨rb, 1, none⟩ (.int .i64 ((r.at' : Int) + 1 + 1))) = WW at *
      have k0 : WW.cell? ⟨rb, 0, none⟩ = some (.slice (some b1) ps.length pc) := GF.rBlk.cell 0
      have k1 : WW.cell? ⟨rb, 1, none⟩ = some (.int .i64 ((r.at' : Int) + 1 + 1)) := GF.rBlk.cell 1
      have GG := Lib.hid (GF.shutR (by rw [List.length_set]; exact hil))
      clear GF
      have hkk : decide ((r.at' : Int) + 1 + 1 ≥ (ps.length : Int)) = decide (ps.length ≤ r.at' + 2) := by congr 1; simp; omega
      go_quiet (fail)
      go_wp2_with fail
      go_ret
      refine ⟨?_, ?_⟩
      · exact ret_bool (by simp [rnNext, HX.out, he] <;> omega)
      · have h := GG.out.drewN nq
        have e : rnNext ps r s = (decide (ps.length ≤ r.at' + 2), ⟨r.at' + 2, r.told ++ [s.n]⟩, (ceDone x s).2) := by simp [rnNext, HX.out, he]
        rw [e]
        rw [List.set_comm _ _ hij]
        simpa [runP] using h
  · have e : rnNext ps r s = (true, r, s) := by simp [rnNext, List.getElem?_eq_none (show ps.length ≤ r.at' by omega)]
    have HH := Lib.hid h
    clear h RC R
    rw [e]
    go_enter Try.func13, Try.ntmps13
    go_wp2_with fail
    go_quiet (fail)
    go_wp2_with fail
    go_quiet (fail)
    go_wp2_with fail
    go_ret
    refine ⟨ret_bool (by simp; omega), ?_⟩
    rw [th_set_id _ _ _ hi, th_set_id _ _ _ hj]
    exact (HH.out.drewN _).drewN _
end Go.Proofs.Ytblijgdmfohfcaa
