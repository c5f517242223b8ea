/- A struct with one row of its own in memory; the cell that all share: what Done makes of it. No condition but the bounds of size. -/
import Derived.Test.YtblijgdmfohfcaaK5
namespace Go.Proofs.Ytblijgdmfohfcaa
open Go Go.RowKit
set_option linter.unusedVariables false
set_option linter.unusedSimpArgs false
/-- A block one of whose cells is a row of its own. -/
def rowedP (b : Nat) (t : TypeId) (cs : Value → Array Value) (et : TypeId) (n : Nat) (us : List Value) : Piece where
  holds w S := ∃ lv, Many w [blkP b t (cs lv), rowP et 1 lv n us] S
  keep h hf hn _ := by obtain ⟨lv, h⟩ := h; exact ⟨lv, h.keep hf hn⟩
section
variable {w0 w : World} {l : List Piece} {i b n : Nat} {t et : TypeId} {cs : Value → Array Value} {us : List Value} {lv : Value}
theorem Heap.openR (h : Heap w0 w l) (i : Nat) (hi : l[i]? = some (rowedP b t cs et n us)) : ∃ a c, Heap w0 w (l.set i nilP ++ [blkP b t (cs (.slice a n c)), rowP et 1 (.slice a n c) n us]) := by
  obtain ⟨S, ⟨lv, hM⟩, hs, U⟩ := h.take i hi
  obtain ⟨R, hr, _⟩ := hM.get 1 rfl
  obtain ⟨a, c, rfl, _, _⟩ := hr.1.form
  have h2 := U (p' := manyP [blkP b t (cs (.slice a n c)), rowP et 1 (.slice a n c) n us]) (S' := S) (Fr.refl _ _) hM (fun _ x => .inl x)
  have h3 := h2.unpack i (List.getElem?_set_self (List.getElem?_eq_some_iff.1 hi).1)
  rw [List.set_set] at h3
  exact ⟨a, c, h3⟩
theorem Heap.shutR (h : Heap w0 w (l.set i nilP ++ [blkP b t (cs lv), rowP et 1 lv n us])) (hil : i < l.length) : Heap w0 w (l.set i (rowedP b t cs et n us)) := by
  have h2 := h.repack hil
  obtain ⟨S, hM, hs, U⟩ := h2.take i (p := manyP [blkP b t (cs lv), rowP et 1 lv n us]) (List.getElem?_set_self hil)
  have h3 := U (p' := rowedP b t cs et n us) (S' := S) (Fr.refl _ _) ⟨lv, hM⟩ (fun _ x => .inl x)
  rwa [List.set_set] at h3
theorem Heap.rBlk (h : Heap w0 w (l.set i nilP ++ [blkP b t (cs lv), rowP et 1 lv n us])) : Blk w b t (cs lv) := h.blk l.length (by rw [List.getElem?_append_right (by simp)]; simp)
theorem Heap.rRow (h : Heap w0 w (l.set i nilP ++ [blkP b t (cs lv), rowP et 1 lv n us])) : QRow w et 1 lv n us := h.row (l.length + 1) (by rw [List.getElem?_append_right (by simp)]; simp)
theorem rAt1 {q : Piece} : (l.set i nilP ++ [q, rowP et 1 lv n us])[l.length + 1]? = some (rowP et 1 lv n us) := by rw [List.getElem?_append_right (by simp)]; simp
/-- Its row lies elsewhere than the block. -/
theorem Heap.rApart (h : Heap w0 w (l.set i nilP ++ [blkP b t (cs lv), rowP et 1 lv n us])) (hne : t ≠ et) : lv.ownBlock ≠ some b := fun e => by
  obtain ⟨S, hS, _⟩ := h.get (l.length + 1) rAt1
  obtain ⟨c, hc⟩ := (hS.2 b e).2
  exact hc.ne h.rBlk (fun x => hne x.symm) rfl
theorem Heap.rSet (h : Heap w0 w (l.set i nilP ++ [blkP b t (cs lv), rowP et 1 lv n us])) (o : Nat) (u : Value) (cs' : Value → Array Value) (hc : (cs lv).setIfInBounds o u = cs' lv) : Heap w0 (w.setCell ⟨b, o, none⟩ u) (l.set i nilP ++ [blkP b t (cs' lv), rowP et 1 lv n us]) := by
  have h2 := h.setCell l.length (b := b) (t := t) (c := cs lv) (by rw [List.getElem?_append_right (by simp)]; simp) o u
  rw [List.set_append_right _ _ (by simp), hc] at h2
  simpa using h2
/-- The row grew; the block is told so. -/
theorem Heap.rGrow {wa w' : World} {n' o : Nat} {lv' : Value} {us' : List Value} (h : Heap w0 w (l.set i nilP ++ [blkP b t (cs lv), rowP et 1 lv n us])) (hf : Fr nob w wa) (q : QRow w' et 1 lv' n' us') (hg : wa.grownBy w' lv.ownBlock)
    (hat : ∀ g, lv'.ownBlock = some g → (lv.ownBlock = some g ∨ wa.heap.size ≤ g) ∧ ∃ c, Blk w' g et c) (hc : (cs lv).setIfInBounds o lv' = cs lv') : Heap w0 (w'.setCell ⟨b, o, none⟩ lv') (l.set i nilP ++ [blkP b t (cs lv'), rowP et 1 lv' n' us']) := by
  have g0 := h.growRow (l.length + 1) rAt1 hf q hg hat
  have e : (l.set i nilP ++ [blkP b t (cs lv), rowP et 1 lv n us]).set (l.length + 1) (rowP et 1 lv' n' us') = l.set i nilP ++ [blkP b t (cs lv), rowP et 1 lv' n' us'] := by
    rw [List.set_append_right _ _ (by simp)]; simp
  rw [e] at g0
  have g1 := g0.setCell l.length (b := b) (t := t) (c := cs lv) (by rw [List.getElem?_append_right (by simp)]; simp) o lv'
  rw [List.set_append_right _ _ (by simp), hc] at g1
  simpa using g1
end
/-- The cell: a number, and what touched it. -/
structure Ce where
  n : Int
  log : List Int
/-- A touch: what it does, with a number. -/
structure Tc where
  d : Int
  k : Int
def ceC (s : Ce) (lv : Value) : Array Value := #[.int .i64 s.n, lv]
def cellP (b : Nat) (s : Ce) : Piece := rowedP b 28 (ceC s) 2 s.log.length (s.log.map (Value.int .i64))
def ceNext (x : Tc) (n : Int) : Int := if x.d % 4 = 1 then wrap64 (n + x.k) else if x.d % 4 = 2 then x.k else if x.d % 4 = 3 then (if n.tmod 2 = 0 then wrap64 (wrap64 (3 * n) + x.k) else n) else n
theorem tc_facts (x : Tc) (d0 : 0 ≤ x.d) (d1 : x.d ≤ 255) (k0 : -128 ≤ x.k) (k1 : x.k ≤ 127) (D : Int) (hm : x.d % 4 = D) : IntKind.i64.wrap (x.d.tmod 4) = D ∧ IntKind.i64.wrap x.k = x.k := by
  rw [Int.tmod_eq_emod_of_nonneg d0, hm, IntKind.wrap_i64, IntKind.wrap_i64]
  constructor <;> omega
/-- One touch. -/
def ceDone (x : Tc) (s : Ce) : Int × Ce := (s.n, ⟨ceNext x s.n, s.log ++ [x.d % 4, x.k, s.n]⟩)
section
variable {w0 w : World} {l : List Piece} {cb i : Nat} {s : Ce}
theorem ce_stage {lv : Value} (h : Heap w0 w (l.set i nilP ++ [blkP cb 28 (ceC s lv), rowP 2 1 lv s.log.length (s.log.map (Value.int .i64))])) (v : Int) (cs : Array Value) (t : TypeId) :
    Heap w0 ((w.setCell ⟨cb, 0, none⟩ (.int .i64 v)).alloc (.cells cs t)) (l.set i nilP ++ [blkP cb 28 (ceC ⟨v, s.log⟩ lv), rowP 2 1 lv s.log.length (s.log.map (Value.int .i64))] ++ [blkP w.heap.size t cs]) := by
  have h1 := (h.rSet 0 (.int .i64 v) (ceC ⟨v, s.log⟩) rfl).alloc t cs
  rwa [show (w.setCell ⟨cb, 0, none⟩ (.int .i64 v)).heap.size = w.heap.size from by simp [World.setCell]] at h1
set_option maxHeartbeats 8000000 in
set_option maxRecDepth 100000 in
theorem CDone_h (h : Heap w0 w l) (i : Nat) (hi : l[i]? = some (cellP cb s)) (x : Tc) (hd : 0 ≤ x.d ∧ x.d ≤ 255) (hk : -128 ≤ x.k ∧ x.k ≤ 127) (hlm : s.log.length ≤ 1000000) :
    Calls Try.prog 35 #[.pointer (some ⟨cb, 0, none⟩), .agg #[.int .u8 x.d, .int .i8 x.k]] w fun e w' => e = .returned (.int .i64 s.n) ∧ Heap w0 w' (l.set i (cellP cb (ceDone x s).2)) := by
  have hil := (List.getElem?_eq_some_iff.1 hi).1
  obtain ⟨a, c, H0⟩ := h.openR i hi
  have c0 : w.cell? ⟨cb, 0, none⟩ = some (.int .i64 s.n) := H0.rBlk.cell 0
  have c1 : w.cell? ⟨cb, 1, none⟩ = some (.slice a s.log.length c) := H0.rBlk.cell 1
  have z0 := H0.rBlk.froz 0
  have z1 := H0.rBlk.froz 1
  have lt := H0.rBlk.lt
  obtain ⟨d0, d1⟩ := hd
  obtain ⟨k0, k1⟩ := hk
  have HH := Lib.hid H0
  obtain ⟨i0, hi0, hz0, hz1, hz2⟩ := info_parts info_i64t
  have I0 := Lib.hid (And.intro hi0 (And.intro hz0 (And.intro hz1 hz2)))
  have hlm' : s.log.length + 3 ≤ maxLen := by unfold maxLen; omega
  have hlb : (s.log.length + 3) * 8 ≤ 140737488355328 := by omega
  have HL := Lib.hid (And.intro hlm' hlb)
  clear h H0 hi0 hz0 hz1 hz2 hlm' hlb
  go_enter Try.func35, Try.ntmps35
  go_upto_region 3 with fail
  have hm : x.d % 4 = 0 ∨ x.d % 4 = 1 ∨ x.d % 4 = 2 ∨ x.d % 4 = 3 := by omega
  rcases hm with hm | hm | hm | hm
  · go_upto_region 10 with fail
    generalize hK : w.heap.size = K at *
    have G0 := HH.out.alloc 56 #[.int .u8 x.d, .int .i8 x.k]
    rw [hK] at G0
    generalize hWW : w.alloc (.cells #[.int .u8 x.d, .int .i8 x.k] 56) = W at *
    clear hWW
    have B := G0.blk l.length (b := cb) (t := 28) (c := ceC ⟨s.n, s.log⟩ (.slice a s.log.length c)) (by rw [List.append_assoc, List.getElem?_append_right (by simp)]; simp [ceC])
    have BT := G0.blk (l.length + 2) (b := K) (t := 56) (c := #[.int .u8 x.d, .int .i8 x.k]) (by rw [List.append_assoc, List.getElem?_append_right (by simp)]; simp)
    have c1 : W.cell? ⟨cb, 1, none⟩ = some (.slice a s.log.length c) := B.cell 1
    have z1 := B.froz 1
    have t0 : W.cell? ⟨K, 0, none⟩ = some (.int .u8 x.d) := BT.cell 0
    have t1 : W.cell? ⟨K, 1, none⟩ = some (.int .i8 x.k) := BT.cell 1
    have G1 := Heap.first G0
    have HA := Lib.hid (G1.rApart (by decide))
    obtain ⟨S0, hS0, _⟩ := G0.get (l.length + 1) (by rw [List.append_assoc, List.getElem?_append_right (by simp)]; simp; rfl)
    have hAK : ∀ g, (Value.slice a s.log.length c).ownBlock = some g → g ≠ K := fun g hg e => by
      obtain ⟨c', hc'⟩ := (hS0.2 g hg).2
      subst e
      exact hc'.ne BT (by decide) rfl
    have HAK := Lib.hid hAK
    have QQ := Lib.hid G1.rRow
    have HG := Lib.hid G1
    clear G0 G1 B BT HH hS0 hAK
    have q0 : W.drew.cell? ⟨K, 0, none⟩ = some (.int .u8 x.d) ∧ W.drew.cell? ⟨K, 1, none⟩ = some (.int .i8 x.k) ∧ W.drew.cell? ⟨cb, 1, none⟩ = some (.slice a s.log.length c) := ⟨t0, t1, c1⟩
    refine wp_region_noPanic ?_
    refine AnyK.start (ks := [17]) (S := fun w' => w'.cell? ⟨K, 0, none⟩ = some (.int .u8 x.d) ∧ w'.cell? ⟨K, 1, none⟩ = some (.int .i8 x.k) ∧ w'.cell? ⟨cb, 1, none⟩ = some (.slice a s.log.length c)) (by kernel_rfl) (by exact q0) (fun _ => ?_)
    obtain ⟨e1, e2⟩ := tc_facts x d0 d1 k0 k1 0 hm
    refine AnyK.take (i := 0) (v := ?_) rfl (by kernel_rfl) (by kernel_rfl) (by kernel_rfl) (by kernel_rfl) (fun _ _ _ h => h) (Or.inl ⟨by rfl, ?_⟩) (by exact q0) ?_
    rotate_left
    focus
      intro w9 hSw
      try dsimp only at hSw
      go_simp
      try with_reducible rfl
    try simp only [Act.put, List.setIfInBounds_toArray, List.set_cons_zero, List.set_cons_succ]
    refine AnyK.take (i := 1) (v := ?_) rfl (by kernel_rfl) (by kernel_rfl) (by kernel_rfl) (by kernel_rfl) (fun _ _ _ h => h) (Or.inl ⟨by rfl, ?_⟩) (by exact q0) ?_
    rotate_left
    focus
      intro w9 hSw
      try dsimp only at hSw
      go_simp
      try with_reducible rfl
    try simp only [Act.put, List.setIfInBounds_toArray, List.set_cons_zero, List.set_cons_succ]
    refine AnyK.take (i := 2) (v := ?_) rfl (by kernel_rfl) (by kernel_rfl) (by kernel_rfl) (by kernel_rfl) (fun _ _ _ h => h) (Or.inl ⟨by rfl, ?_⟩) (by exact q0) ?_
    rotate_left
    focus
      intro w9 hSw
      try dsimp only at hSw
      go_simp
      try with_reducible rfl
    try simp only [Act.put, List.setIfInBounds_toArray, List.set_cons_zero, List.set_cons_succ]
    refine AnyK.take (i := 3) (v := ?_) rfl (by kernel_rfl) (by kernel_rfl) (by kernel_rfl) (by kernel_rfl) (fun _ _ _ h => h) (Or.inl ⟨by rfl, ?_⟩) (by exact q0) ?_
    rotate_left
    focus
      intro w9 hSw
      try dsimp only at hSw
      go_simp
      try with_reducible rfl
    try simp only [Act.put, List.setIfInBounds_toArray, List.set_cons_zero, List.set_cons_succ]
    refine AnyK.take (i := 4) (v := ?_) rfl (by kernel_rfl) (by kernel_rfl) (by kernel_rfl) (by kernel_rfl) (fun _ _ _ h => h) (Or.inl ⟨by rfl, ?_⟩) (by exact q0) ?_
    rotate_left
    focus
      intro w9 hSw
      try dsimp only at hSw
      go_simp
      try with_reducible rfl
    try simp only [Act.put, List.setIfInBounds_toArray, List.set_cons_zero, List.set_cons_succ]
    refine AnyK.take (i := 5) (v := ?_) rfl (by kernel_rfl) (by kernel_rfl) (by kernel_rfl) (by kernel_rfl) (fun _ _ _ h => h) (Or.inl ⟨by rfl, ?_⟩) (by exact q0) ?_
    rotate_left
    focus
      intro w9 hSw
      try dsimp only at hSw
      go_simp
      try with_reducible rfl
    try simp only [Act.put, List.setIfInBounds_toArray, List.set_cons_zero, List.set_cons_succ]
    refine AnyK.take (i := 6) (v := ?_) rfl (by kernel_rfl) (by kernel_rfl) (by kernel_rfl) (by kernel_rfl) (fun _ _ _ h => h) (Or.inl ⟨by rfl, ?_⟩) (by exact q0) ?_
    rotate_left
    focus
      intro w9 hSw
      try dsimp only at hSw
      go_simp
      try with_reducible rfl
    try simp only [Act.put, List.setIfInBounds_toArray, List.set_cons_zero, List.set_cons_succ]
    refine AnyK.take (i := 7) (v := ?_) rfl (by kernel_rfl) (by kernel_rfl) (by kernel_rfl) (by kernel_rfl) (fun _ _ _ h => h) (Or.inl ⟨by rfl, ?_⟩) (by exact q0) ?_
    rotate_left
    focus
      intro w9 hSw
      try dsimp only at hSw
      go_simp
      try with_reducible rfl
    try simp only [Act.put, List.setIfInBounds_toArray, List.set_cons_zero, List.set_cons_succ]
    refine AnyK.take (i := 8) (v := ?_) rfl (by kernel_rfl) (by kernel_rfl) (by kernel_rfl) (by kernel_rfl) (fun _ _ _ h => h) (Or.inl ⟨by rfl, ?_⟩) (by exact q0) ?_
    rotate_left
    focus
      intro w9 hSw
      try dsimp only at hSw
      go_simp
      try with_reducible rfl
    try simp only [Act.put, List.setIfInBounds_toArray, List.set_cons_zero, List.set_cons_succ]
    refine AnyK.take (i := 9) (v := ?_) rfl (by kernel_rfl) (by kernel_rfl) (by kernel_rfl) (by kernel_rfl) (fun _ _ _ h => h) (Or.inl ⟨by rfl, ?_⟩) (by exact q0) ?_
    rotate_left
    focus
      intro w9 hSw
      try dsimp only at hSw
      go_simp
      try with_reducible rfl
    try simp only [Act.put, List.setIfInBounds_toArray, List.set_cons_zero, List.set_cons_succ]
    refine AnyK.take (i := 10) (v := ?_) rfl (by kernel_rfl) (by kernel_rfl) (by kernel_rfl) (by kernel_rfl) (fun _ _ _ h => h) (Or.inl ⟨by rfl, ?_⟩) (by exact q0) ?_
    rotate_left
    focus
      intro w9 hSw
      try dsimp only at hSw
      go_simp
      try with_reducible rfl
    try simp only [Act.put, List.setIfInBounds_toArray, List.set_cons_zero, List.set_cons_succ]
    refine AnyK.take (i := 11) (v := ?_) rfl (by kernel_rfl) (by kernel_rfl) (by kernel_rfl) (by kernel_rfl) (fun _ _ _ h => h) (Or.inl ⟨by rfl, ?_⟩) (by exact q0) ?_
    rotate_left
    focus
      intro w9 hSw
      try dsimp only at hSw
      go_simp
      try with_reducible rfl
    try simp only [Act.put, List.setIfInBounds_toArray, List.set_cons_zero, List.set_cons_succ]
    refine AnyK.take (i := 12) (v := ?_) rfl (by kernel_rfl) (by kernel_rfl) (by kernel_rfl) (by kernel_rfl) (fun _ _ _ h => h) (Or.inl ⟨by rfl, ?_⟩) (by exact q0) ?_
    rotate_left
    focus
      intro w9 hSw
      try dsimp only at hSw
      go_simp
      try with_reducible rfl
    try simp only [Act.put, List.setIfInBounds_toArray, List.set_cons_zero, List.set_cons_succ]
    clear e1 e2
    refine AnyK.one (i := 13) (by kernel_rfl) rfl (fun K9 hK9 => ?_)
    go_simp
    refine hK9.out _ _ (fun _ => ⟨Fr.cell' (by repeat (first | exact Fr.refl nob W | apply Fr.drew | apply Fr.alloc)) t0 (fun x => x), Fr.cell' (by repeat (first | exact Fr.refl nob W | apply Fr.drew | apply Fr.alloc)) t1 (fun x => x), Fr.cell' (by repeat (first | exact Fr.refl nob W | apply Fr.drew | apply Fr.alloc)) c1 (fun x => x)⟩) ?_
    clear hK9 K9
    try simp only [Act.put, List.setIfInBounds_toArray, List.set_cons_zero, List.set_cons_succ]
    refine AnyK.one (i := 14) (by kernel_rfl) rfl (fun K9 hK9 => ?_)
    refine step_append_typed _ (by rfl) (.tmp 57) (.tmp 66) 26 (by rfl) 2 i0 (.int .i64 0) 1 8 Try.underlying26 I0.out.1 I0.out.2.1 I0.out.2.2.1 I0.out.2.2.2 rfl (by decide) (.slice a s.log.length c) s.log.length (s.log.map (Value.int .i64)) (by simp [Act.eval]) (QQ.out.fr (F := nob) (by repeat (first | exact Fr.refl _ _ | apply Fr.drew | apply Fr.alloc)) (fun _ _ _ x => x)) _ 3 [.int .i64 0, .int .i64 x.k, .int .i64 s.n] (by simp [Act.eval]; rfl) (RdV.block (cs := #[.int .i64 0, .int .i64 x.k, .int .i64 s.n]) (t := 2) (by repeat (first | exact Blk.new' rfl _ _ | apply Blk.drew | apply Blk.alloc)) rfl (by decide)) (by simp [Value.oneCell']) HL.out.1 HL.out.2 ?_
    intro a2 c2 w7 q7 grow7 hat7
    have f7 : Fr (fun j => (Value.slice a s.log.length c).ownBlock = some j) W w7 := Fr.grown (by repeat (first | exact Fr.refl _ _ | apply Fr.drew | apply Fr.alloc)) grow7 (fun k hk => .inl hk)
    have y1 := f7.cell' c1 HA.out
    have y2 := f7.froz' c1 z1 HA.out
    have q7' := And.intro (f7.cell' t0 (fun x => HAK.out _ x rfl)) (And.intro (f7.cell' t1 (fun x => HAK.out _ x rfl)) y1)
    refine hK9.out _ _ (fun _ => q7') ?_
    clear hK9 K9
    try simp only [Act.put, List.setIfInBounds_toArray, List.set_cons_zero, List.set_cons_succ]
    refine AnyK.one (i := 15) (by kernel_rfl) rfl (fun K9 hK9 => ?_)
    go_simp
    refine hK9.out _ _ (fun _ => q7') ?_
    clear hK9 K9
    try simp only [Act.put, List.setIfInBounds_toArray, List.set_cons_zero, List.set_cons_succ]
    refine AnyK.one (i := 16) (by kernel_rfl) rfl (fun K9 hK9 => ?_)
    go_simp
    refine hK9.out _ _ (fun _ => q7') ?_
    clear hK9 K9
    try simp only [Act.put, List.setIfInBounds_toArray, List.set_cons_zero, List.set_cons_succ]
    refine AnyK.one (i := 17) (by kernel_rfl) rfl (fun K9 hK9 => ?_)
    go_simp
    refine hK9.out _ _ (fun h => absurd (by decide) h) ?_
    clear hK9 K9
    try simp only [Act.put, List.setIfInBounds_toArray, List.set_cons_zero, List.set_cons_succ]
    refine AnyK.done (by kernel_rfl) ?_ _
    refine NoPanic.normal ?_
    have P := HG.out.rGrow (o := 1) (by repeat (first | exact Fr.refl nob _ | apply Fr.drew | apply Fr.alloc)) q7 grow7 (fun k hk => by
      rcases hat7 k hk with ⟨h, _, _⟩ | ⟨h, c⟩
      · exact absurd h (by decide)
      · exact ⟨h, c⟩) rfl
    have P2 := Heap.shutR (cs := ceC (ceDone x s).2) (by
      have e : ceC (ceDone x s).2 = ceC ⟨s.n, s.log⟩ := by funext lv; simp [ceC, ceDone, ceNext, hm]
      rw [e]; exact P) hil
    have PP := Lib.hid P2
    clear P P2 q7 grow7 hat7 f7 HG QQ q7' q0
    go_wp2_with fail
    go_ret
    refine ⟨rfl, ?_⟩
    have h := PP.out
    unfold cellP
    rw [show (ceDone x s).2.log = s.log ++ [0, x.k, s.n] from by simp [ceDone, hm]]
    simpa using h
  · go_upto_region 4 with fail
    go_region
    go_upto_region 10 with fail
    generalize hK : w.heap.size = K at *
    have G0 := (ce_stage HH.out (wrap64 (s.n + x.k)) #[.int .u8 x.d, .int .i8 x.k] 56).drew
    rw [hK] at G0
    generalize hWW : ((w.setCell ⟨cb, 0, none⟩ (.int .i64 (wrap64 (s.n + x.k)))).alloc (.cells #[.int .u8 x.d, .int .i8 x.k] 56)).drew = W at *
    clear hWW
    have B := G0.blk l.length (b := cb) (t := 28) (c := ceC ⟨wrap64 (s.n + x.k), s.log⟩ (.slice a s.log.length c)) (by rw [List.append_assoc, List.getElem?_append_right (by simp)]; simp [ceC])
    have BT := G0.blk (l.length + 2) (b := K) (t := 56) (c := #[.int .u8 x.d, .int .i8 x.k]) (by rw [List.append_assoc, List.getElem?_append_right (by simp)]; simp)
    have c1 : W.cell? ⟨cb, 1, none⟩ = some (.slice a s.log.length c) := B.cell 1
    have z1 := B.froz 1
    have t0 : W.cell? ⟨K, 0, none⟩ = some (.int .u8 x.d) := BT.cell 0
    have t1 : W.cell? ⟨K, 1, none⟩ = some (.int .i8 x.k) := BT.cell 1
    have G1 := Heap.first G0
    have HA := Lib.hid (G1.rApart (by decide))
    obtain ⟨S0, hS0, _⟩ := G0.get (l.length + 1) (by rw [List.append_assoc, List.getElem?_append_right (by simp)]; simp; rfl)
    have hAK : ∀ g, (Value.slice a s.log.length c).ownBlock = some g → g ≠ K := fun g hg e => by
      obtain ⟨c', hc'⟩ := (hS0.2 g hg).2
      subst e
      exact hc'.ne BT (by decide) rfl
    have HAK := Lib.hid hAK
    have QQ := Lib.hid G1.rRow
    have HG := Lib.hid G1
    clear G0 G1 B BT HH hS0 hAK
    have q0 : W.drew.cell? ⟨K, 0, none⟩ = some (.int .u8 x.d) ∧ W.drew.cell? ⟨K, 1, none⟩ = some (.int .i8 x.k) ∧ W.drew.cell? ⟨cb, 1, none⟩ = some (.slice a s.log.length c) := ⟨t0, t1, c1⟩
    refine wp_region_noPanic ?_
    refine AnyK.start (ks := [17]) (S := fun w' => w'.cell? ⟨K, 0, none⟩ = some (.int .u8 x.d) ∧ w'.cell? ⟨K, 1, none⟩ = some (.int .i8 x.k) ∧ w'.cell? ⟨cb, 1, none⟩ = some (.slice a s.log.length c)) (by kernel_rfl) (by exact q0) (fun _ => ?_)
    obtain ⟨e1, e2⟩ := tc_facts x d0 d1 k0 k1 1 hm
    refine AnyK.take (i := 0) (v := ?_) rfl (by kernel_rfl) (by kernel_rfl) (by kernel_rfl) (by kernel_rfl) (fun _ _ _ h => h) (Or.inl ⟨by rfl, ?_⟩) (by exact q0) ?_
    rotate_left
    focus
      intro w9 hSw
      try dsimp only at hSw
      go_simp
      try with_reducible rfl
    try simp only [Act.put, List.setIfInBounds_toArray, List.set_cons_zero, List.set_cons_succ]
    refine AnyK.take (i := 1) (v := ?_) rfl (by kernel_rfl) (by kernel_rfl) (by kernel_rfl) (by kernel_rfl) (fun _ _ _ h => h) (Or.inl ⟨by rfl, ?_⟩) (by exact q0) ?_
    rotate_left
    focus
      intro w9 hSw
      try dsimp only at hSw
      go_simp
      try with_reducible rfl
    try simp only [Act.put, List.setIfInBounds_toArray, List.set_cons_zero, List.set_cons_succ]
    refine AnyK.take (i := 2) (v := ?_) rfl (by kernel_rfl) (by kernel_rfl) (by kernel_rfl) (by kernel_rfl) (fun _ _ _ h => h) (Or.inl ⟨by rfl, ?_⟩) (by exact q0) ?_
    rotate_left
    focus
      intro w9 hSw
      try dsimp only at hSw
      go_simp
      try with_reducible rfl
    try simp only [Act.put, List.setIfInBounds_toArray, List.set_cons_zero, List.set_cons_succ]
    refine AnyK.take (i := 3) (v := ?_) rfl (by kernel_rfl) (by kernel_rfl) (by kernel_rfl) (by kernel_rfl) (fun _ _ _ h => h) (Or.inl ⟨by rfl, ?_⟩) (by exact q0) ?_
    rotate_left
    focus
      intro w9 hSw
      try dsimp only at hSw
      go_simp
      try with_reducible rfl
    try simp only [Act.put, List.setIfInBounds_toArray, List.set_cons_zero, List.set_cons_succ]
    refine AnyK.take (i := 4) (v := ?_) rfl (by kernel_rfl) (by kernel_rfl) (by kernel_rfl) (by kernel_rfl) (fun _ _ _ h => h) (Or.inl ⟨by rfl, ?_⟩) (by exact q0) ?_
    rotate_left
    focus
      intro w9 hSw
      try dsimp only at hSw
      go_simp
      try with_reducible rfl
    try simp only [Act.put, List.setIfInBounds_toArray, List.set_cons_zero, List.set_cons_succ]
    refine AnyK.take (i := 5) (v := ?_) rfl (by kernel_rfl) (by kernel_rfl) (by kernel_rfl) (by kernel_rfl) (fun _ _ _ h => h) (Or.inl ⟨by rfl, ?_⟩) (by exact q0) ?_
    rotate_left
    focus
      intro w9 hSw
      try dsimp only at hSw
      go_simp
      try with_reducible rfl
    try simp only [Act.put, List.setIfInBounds_toArray, List.set_cons_zero, List.set_cons_succ]
    refine AnyK.take (i := 6) (v := ?_) rfl (by kernel_rfl) (by kernel_rfl) (by kernel_rfl) (by kernel_rfl) (fun _ _ _ h => h) (Or.inl ⟨by rfl, ?_⟩) (by exact q0) ?_
    rotate_left
    focus
      intro w9 hSw
      try dsimp only at hSw
      go_simp
      try with_reducible rfl
    try simp only [Act.put, List.setIfInBounds_toArray, List.set_cons_zero, List.set_cons_succ]
    refine AnyK.take (i := 7) (v := ?_) rfl (by kernel_rfl) (by kernel_rfl) (by kernel_rfl) (by kernel_rfl) (fun _ _ _ h => h) (Or.inl ⟨by rfl, ?_⟩) (by exact q0) ?_
    rotate_left
    focus
      intro w9 hSw
      try dsimp only at hSw
      go_simp
      try with_reducible rfl
    try simp only [Act.put, List.setIfInBounds_toArray, List.set_cons_zero, List.set_cons_succ]
    refine AnyK.take (i := 8) (v := ?_) rfl (by kernel_rfl) (by kernel_rfl) (by kernel_rfl) (by kernel_rfl) (fun _ _ _ h => h) (Or.inl ⟨by rfl, ?_⟩) (by exact q0) ?_
    rotate_left
    focus
      intro w9 hSw
      try dsimp only at hSw
      go_simp
      try with_reducible rfl
    try simp only [Act.put, List.setIfInBounds_toArray, List.set_cons_zero, List.set_cons_succ]
    refine AnyK.take (i := 9) (v := ?_) rfl (by kernel_rfl) (by kernel_rfl) (by kernel_rfl) (by kernel_rfl) (fun _ _ _ h => h) (Or.inl ⟨by rfl, ?_⟩) (by exact q0) ?_
    rotate_left
    focus
      intro w9 hSw
      try dsimp only at hSw
      go_simp
      try with_reducible rfl
    try simp only [Act.put, List.setIfInBounds_toArray, List.set_cons_zero, List.set_cons_succ]
    refine AnyK.take (i := 10) (v := ?_) rfl (by kernel_rfl) (by kernel_rfl) (by kernel_rfl) (by kernel_rfl) (fun _ _ _ h => h) (Or.inl ⟨by rfl, ?_⟩) (by exact q0) ?_
    rotate_left
    focus
      intro w9 hSw
      try dsimp only at hSw
      go_simp
      try with_reducible rfl
    try simp only [Act.put, List.setIfInBounds_toArray, List.set_cons_zero, List.set_cons_succ]
    refine AnyK.take (i := 11) (v := ?_) rfl (by kernel_rfl) (by kernel_rfl) (by kernel_rfl) (by kernel_rfl) (fun _ _ _ h => h) (Or.inl ⟨by rfl, ?_⟩) (by exact q0) ?_
    rotate_left
    focus
      intro w9 hSw
      try dsimp only at hSw
      go_simp
      try with_reducible rfl
    try simp only [Act.put, List.setIfInBounds_toArray, List.set_cons_zero, List.set_cons_succ]
    refine AnyK.take (i := 12) (v := ?_) rfl (by kernel_rfl) (by kernel_rfl) (by kernel_rfl) (by kernel_rfl) (fun _ _ _ h => h) (Or.inl ⟨by rfl, ?_⟩) (by exact q0) ?_
    rotate_left
    focus
      intro w9 hSw
      try dsimp only at hSw
      go_simp
      try with_reducible rfl
    try simp only [Act.put, List.setIfInBounds_toArray, List.set_cons_zero, List.set_cons_succ]
    clear e1 e2
    refine AnyK.one (i := 13) (by kernel_rfl) rfl (fun K9 hK9 => ?_)
    go_simp
    refine hK9.out _ _ (fun _ => ⟨Fr.cell' (by repeat (first | exact Fr.refl nob W | apply Fr.drew | apply Fr.alloc)) t0 (fun x => x), Fr.cell' (by repeat (first | exact Fr.refl nob W | apply Fr.drew | apply Fr.alloc)) t1 (fun x => x), Fr.cell' (by repeat (first | exact Fr.refl nob W | apply Fr.drew | apply Fr.alloc)) c1 (fun x => x)⟩) ?_
    clear hK9 K9
    try simp only [Act.put, List.setIfInBounds_toArray, List.set_cons_zero, List.set_cons_succ]
    refine AnyK.one (i := 14) (by kernel_rfl) rfl (fun K9 hK9 => ?_)
    refine step_append_typed _ (by rfl) (.tmp 57) (.tmp 66) 26 (by rfl) 2 i0 (.int .i64 0) 1 8 Try.underlying26 I0.out.1 I0.out.2.1 I0.out.2.2.1 I0.out.2.2.2 rfl (by decide) (.slice a s.log.length c) s.log.length (s.log.map (Value.int .i64)) (by simp [Act.eval]) (QQ.out.fr (F := nob) (by repeat (first | exact Fr.refl _ _ | apply Fr.drew | apply Fr.alloc)) (fun _ _ _ x => x)) _ 3 [.int .i64 1, .int .i64 x.k, .int .i64 s.n] (by simp [Act.eval]; rfl) (RdV.block (cs := #[.int .i64 1, .int .i64 x.k, .int .i64 s.n]) (t := 2) (by repeat (first | exact Blk.new' rfl _ _ | apply Blk.drew | apply Blk.alloc)) rfl (by decide)) (by simp [Value.oneCell']) HL.out.1 HL.out.2 ?_
    intro a2 c2 w7 q7 grow7 hat7
    have f7 : Fr (fun j => (Value.slice a s.log.length c).ownBlock = some j) W w7 := Fr.grown (by repeat (first | exact Fr.refl _ _ | apply Fr.drew | apply Fr.alloc)) grow7 (fun k hk => .inl hk)
    have y1 := f7.cell' c1 HA.out
    have y2 := f7.froz' c1 z1 HA.out
    have q7' := And.intro (f7.cell' t0 (fun x => HAK.out _ x rfl)) (And.intro (f7.cell' t1 (fun x => HAK.out _ x rfl)) y1)
    refine hK9.out _ _ (fun _ => q7') ?_
    clear hK9 K9
    try simp only [Act.put, List.setIfInBounds_toArray, List.set_cons_zero, List.set_cons_succ]
    refine AnyK.one (i := 15) (by kernel_rfl) rfl (fun K9 hK9 => ?_)
    go_simp
    refine hK9.out _ _ (fun _ => q7') ?_
    clear hK9 K9
    try simp only [Act.put, List.setIfInBounds_toArray, List.set_cons_zero, List.set_cons_succ]
    refine AnyK.one (i := 16) (by kernel_rfl) rfl (fun K9 hK9 => ?_)
    go_simp
    refine hK9.out _ _ (fun _ => q7') ?_
    clear hK9 K9
    try simp only [Act.put, List.setIfInBounds_toArray, List.set_cons_zero, List.set_cons_succ]
    refine AnyK.one (i := 17) (by kernel_rfl) rfl (fun K9 hK9 => ?_)
    go_simp
    refine hK9.out _ _ (fun h => absurd (by decide) h) ?_
    clear hK9 K9
    try simp only [Act.put, List.setIfInBounds_toArray, List.set_cons_zero, List.set_cons_succ]
    refine AnyK.done (by kernel_rfl) ?_ _
    refine NoPanic.normal ?_
    have P := HG.out.rGrow (o := 1) (by repeat (first | exact Fr.refl nob _ | apply Fr.drew | apply Fr.alloc)) q7 grow7 (fun k hk => by
      rcases hat7 k hk with ⟨h, _, _⟩ | ⟨h, c⟩
      · exact absurd h (by decide)
      · exact ⟨h, c⟩) rfl
    have P2 := Heap.shutR (cs := ceC (ceDone x s).2) (by
      have e : ceC (ceDone x s).2 = ceC ⟨wrap64 (s.n + x.k), s.log⟩ := by funext lv; simp [ceC, ceDone, ceNext, hm]
      rw [e]; exact P) hil
    have PP := Lib.hid P2
    clear P P2 q7 grow7 hat7 f7 HG QQ q7' q0
    go_wp2_with fail
    go_ret
    refine ⟨rfl, ?_⟩
    have h := PP.out
    unfold cellP
    rw [show (ceDone x s).2.log = s.log ++ [1, x.k, s.n] from by simp [ceDone, hm]]
    simpa using h
  · go_upto_region 10 with fail
    generalize hK : w.heap.size = K at *
    have G0 := (ce_stage HH.out (x.k) #[.int .u8 x.d, .int .i8 x.k] 56)
    rw [hK] at G0
    generalize hWW : (w.setCell ⟨cb, 0, none⟩ (.int .i64 (x.k))).alloc (.cells #[.int .u8 x.d, .int .i8 x.k] 56) = W at *
    clear hWW
    have B := G0.blk l.length (b := cb) (t := 28) (c := ceC ⟨x.k, s.log⟩ (.slice a s.log.length c)) (by rw [List.append_assoc, List.getElem?_append_right (by simp)]; simp [ceC])
    have BT := G0.blk (l.length + 2) (b := K) (t := 56) (c := #[.int .u8 x.d, .int .i8 x.k]) (by rw [List.append_assoc, List.getElem?_append_right (by simp)]; simp)
    have c1 : W.cell? ⟨cb, 1, none⟩ = some (.slice a s.log.length c) := B.cell 1
    have z1 := B.froz 1
    have t0 : W.cell? ⟨K, 0, none⟩ = some (.int .u8 x.d) := BT.cell 0
    have t1 : W.cell? ⟨K, 1, none⟩ = some (.int .i8 x.k) := BT.cell 1
    have G1 := Heap.first G0
    have HA := Lib.hid (G1.rApart (by decide))
    obtain ⟨S0, hS0, _⟩ := G0.get (l.length + 1) (by rw [List.append_assoc, List.getElem?_append_right (by simp)]; simp; rfl)
    have hAK : ∀ g, (Value.slice a s.log.length c).ownBlock = some g → g ≠ K := fun g hg e => by
      obtain ⟨c', hc'⟩ := (hS0.2 g hg).2
      subst e
      exact hc'.ne BT (by decide) rfl
    have HAK := Lib.hid hAK
    have QQ := Lib.hid G1.rRow
    have HG := Lib.hid G1
    clear G0 G1 B BT HH hS0 hAK
    have q0 : W.drew.cell? ⟨K, 0, none⟩ = some (.int .u8 x.d) ∧ W.drew.cell? ⟨K, 1, none⟩ = some (.int .i8 x.k) ∧ W.drew.cell? ⟨cb, 1, none⟩ = some (.slice a s.log.length c) := ⟨t0, t1, c1⟩
    refine wp_region_noPanic ?_
    refine AnyK.start (ks := [17]) (S := fun w' => w'.cell? ⟨K, 0, none⟩ = some (.int .u8 x.d) ∧ w'.cell? ⟨K, 1, none⟩ = some (.int .i8 x.k) ∧ w'.cell? ⟨cb, 1, none⟩ = some (.slice a s.log.length c)) (by kernel_rfl) (by exact q0) (fun _ => ?_)
    obtain ⟨e1, e2⟩ := tc_facts x d0 d1 k0 k1 2 hm
    refine AnyK.take (i := 0) (v := ?_) rfl (by kernel_rfl) (by kernel_rfl) (by kernel_rfl) (by kernel_rfl) (fun _ _ _ h => h) (Or.inl ⟨by rfl, ?_⟩) (by exact q0) ?_
    rotate_left
    focus
      intro w9 hSw
      try dsimp only at hSw
      go_simp
      try with_reducible rfl
    try simp only [Act.put, List.setIfInBounds_toArray, List.set_cons_zero, List.set_cons_succ]
    refine AnyK.take (i := 1) (v := ?_) rfl (by kernel_rfl) (by kernel_rfl) (by kernel_rfl) (by kernel_rfl) (fun _ _ _ h => h) (Or.inl ⟨by rfl, ?_⟩) (by exact q0) ?_
    rotate_left
    focus
      intro w9 hSw
      try dsimp only at hSw
      go_simp
      try with_reducible rfl
    try simp only [Act.put, List.setIfInBounds_toArray, List.set_cons_zero, List.set_cons_succ]
    refine AnyK.take (i := 2) (v := ?_) rfl (by kernel_rfl) (by kernel_rfl) (by kernel_rfl) (by kernel_rfl) (fun _ _ _ h => h) (Or.inl ⟨by rfl, ?_⟩) (by exact q0) ?_
    rotate_left
    focus
      intro w9 hSw
      try dsimp only at hSw
      go_simp
      try with_reducible rfl
    try simp only [Act.put, List.setIfInBounds_toArray, List.set_cons_zero, List.set_cons_succ]
    refine AnyK.take (i := 3) (v := ?_) rfl (by kernel_rfl) (by kernel_rfl) (by kernel_rfl) (by kernel_rfl) (fun _ _ _ h => h) (Or.inl ⟨by rfl, ?_⟩) (by exact q0) ?_
    rotate_left
    focus
      intro w9 hSw
      try dsimp only at hSw
      go_simp
      try with_reducible rfl
    try simp only [Act.put, List.setIfInBounds_toArray, List.set_cons_zero, List.set_cons_succ]
    refine AnyK.take (i := 4) (v := ?_) rfl (by kernel_rfl) (by kernel_rfl) (by kernel_rfl) (by kernel_rfl) (fun _ _ _ h => h) (Or.inl ⟨by rfl, ?_⟩) (by exact q0) ?_
    rotate_left
    focus
      intro w9 hSw
      try dsimp only at hSw
      go_simp
      try with_reducible rfl
    try simp only [Act.put, List.setIfInBounds_toArray, List.set_cons_zero, List.set_cons_succ]
    refine AnyK.take (i := 5) (v := ?_) rfl (by kernel_rfl) (by kernel_rfl) (by kernel_rfl) (by kernel_rfl) (fun _ _ _ h => h) (Or.inl ⟨by rfl, ?_⟩) (by exact q0) ?_
    rotate_left
    focus
      intro w9 hSw
      try dsimp only at hSw
      go_simp
      try with_reducible rfl
    try simp only [Act.put, List.setIfInBounds_toArray, List.set_cons_zero, List.set_cons_succ]
    refine AnyK.take (i := 6) (v := ?_) rfl (by kernel_rfl) (by kernel_rfl) (by kernel_rfl) (by kernel_rfl) (fun _ _ _ h => h) (Or.inl ⟨by rfl, ?_⟩) (by exact q0) ?_
    rotate_left
    focus
      intro w9 hSw
      try dsimp only at hSw
      go_simp
      try with_reducible rfl
    try simp only [Act.put, List.setIfInBounds_toArray, List.set_cons_zero, List.set_cons_succ]
    refine AnyK.take (i := 7) (v := ?_) rfl (by kernel_rfl) (by kernel_rfl) (by kernel_rfl) (by kernel_rfl) (fun _ _ _ h => h) (Or.inl ⟨by rfl, ?_⟩) (by exact q0) ?_
    rotate_left
    focus
      intro w9 hSw
      try dsimp only at hSw
      go_simp
      try with_reducible rfl
    try simp only [Act.put, List.setIfInBounds_toArray, List.set_cons_zero, List.set_cons_succ]
    refine AnyK.take (i := 8) (v := ?_) rfl (by kernel_rfl) (by kernel_rfl) (by kernel_rfl) (by kernel_rfl) (fun _ _ _ h => h) (Or.inl ⟨by rfl, ?_⟩) (by exact q0) ?_
    rotate_left
    focus
      intro w9 hSw
      try dsimp only at hSw
      go_simp
      try with_reducible rfl
    try simp only [Act.put, List.setIfInBounds_toArray, List.set_cons_zero, List.set_cons_succ]
    refine AnyK.take (i := 9) (v := ?_) rfl (by kernel_rfl) (by kernel_rfl) (by kernel_rfl) (by kernel_rfl) (fun _ _ _ h => h) (Or.inl ⟨by rfl, ?_⟩) (by exact q0) ?_
    rotate_left
    focus
      intro w9 hSw
      try dsimp only at hSw
      go_simp
      try with_reducible rfl
    try simp only [Act.put, List.setIfInBounds_toArray, List.set_cons_zero, List.set_cons_succ]
    refine AnyK.take (i := 10) (v := ?_) rfl (by kernel_rfl) (by kernel_rfl) (by kernel_rfl) (by kernel_rfl) (fun _ _ _ h => h) (Or.inl ⟨by rfl, ?_⟩) (by exact q0) ?_
    rotate_left
    focus
      intro w9 hSw
      try dsimp only at hSw
      go_simp
      try with_reducible rfl
    try simp only [Act.put, List.setIfInBounds_toArray, List.set_cons_zero, List.set_cons_succ]
    refine AnyK.take (i := 11) (v := ?_) rfl (by kernel_rfl) (by kernel_rfl) (by kernel_rfl) (by kernel_rfl) (fun _ _ _ h => h) (Or.inl ⟨by rfl, ?_⟩) (by exact q0) ?_
    rotate_left
    focus
      intro w9 hSw
      try dsimp only at hSw
      go_simp
      try with_reducible rfl
    try simp only [Act.put, List.setIfInBounds_toArray, List.set_cons_zero, List.set_cons_succ]
    refine AnyK.take (i := 12) (v := ?_) rfl (by kernel_rfl) (by kernel_rfl) (by kernel_rfl) (by kernel_rfl) (fun _ _ _ h => h) (Or.inl ⟨by rfl, ?_⟩) (by exact q0) ?_
    rotate_left
    focus
      intro w9 hSw
      try dsimp only at hSw
      go_simp
      try with_reducible rfl
    try simp only [Act.put, List.setIfInBounds_toArray, List.set_cons_zero, List.set_cons_succ]
    clear e1 e2
    refine AnyK.one (i := 13) (by kernel_rfl) rfl (fun K9 hK9 => ?_)
    go_simp
    refine hK9.out _ _ (fun _ => ⟨Fr.cell' (by repeat (first | exact Fr.refl nob W | apply Fr.drew | apply Fr.alloc)) t0 (fun x => x), Fr.cell' (by repeat (first | exact Fr.refl nob W | apply Fr.drew | apply Fr.alloc)) t1 (fun x => x), Fr.cell' (by repeat (first | exact Fr.refl nob W | apply Fr.drew | apply Fr.alloc)) c1 (fun x => x)⟩) ?_
    clear hK9 K9
    try simp only [Act.put, List.setIfInBounds_toArray, List.set_cons_zero, List.set_cons_succ]
    refine AnyK.one (i := 14) (by kernel_rfl) rfl (fun K9 hK9 => ?_)
    refine step_append_typed _ (by rfl) (.tmp 57) (.tmp 66) 26 (by rfl) 2 i0 (.int .i64 0) 1 8 Try.underlying26 I0.out.1 I0.out.2.1 I0.out.2.2.1 I0.out.2.2.2 rfl (by decide) (.slice a s.log.length c) s.log.length (s.log.map (Value.int .i64)) (by simp [Act.eval]) (QQ.out.fr (F := nob) (by repeat (first | exact Fr.refl _ _ | apply Fr.drew | apply Fr.alloc)) (fun _ _ _ x => x)) _ 3 [.int .i64 2, .int .i64 x.k, .int .i64 s.n] (by simp [Act.eval]; rfl) (RdV.block (cs := #[.int .i64 2, .int .i64 x.k, .int .i64 s.n]) (t := 2) (by repeat (first | exact Blk.new' rfl _ _ | apply Blk.drew | apply Blk.alloc)) rfl (by decide)) (by simp [Value.oneCell']) HL.out.1 HL.out.2 ?_
    intro a2 c2 w7 q7 grow7 hat7
    have f7 : Fr (fun j => (Value.slice a s.log.length c).ownBlock = some j) W w7 := Fr.grown (by repeat (first | exact Fr.refl _ _ | apply Fr.drew | apply Fr.alloc)) grow7 (fun k hk => .inl hk)
    have y1 := f7.cell' c1 HA.out
    have y2 := f7.froz' c1 z1 HA.out
    have q7' := And.intro (f7.cell' t0 (fun x => HAK.out _ x rfl)) (And.intro (f7.cell' t1 (fun x => HAK.out _ x rfl)) y1)
    refine hK9.out _ _ (fun _ => q7') ?_
    clear hK9 K9
    try simp only [Act.put, List.setIfInBounds_toArray, List.set_cons_zero, List.set_cons_succ]
    refine AnyK.one (i := 15) (by kernel_rfl) rfl (fun K9 hK9 => ?_)
    go_simp
    refine hK9.out _ _ (fun _ => q7') ?_
    clear hK9 K9
    try simp only [Act.put, List.setIfInBounds_toArray, List.set_cons_zero, List.set_cons_succ]
    refine AnyK.one (i := 16) (by kernel_rfl) rfl (fun K9 hK9 => ?_)
    go_simp
    refine hK9.out _ _ (fun _ => q7') ?_
    clear hK9 K9
    try simp only [Act.put, List.setIfInBounds_toArray, List.set_cons_zero, List.set_cons_succ]
    refine AnyK.one (i := 17) (by kernel_rfl) rfl (fun K9 hK9 => ?_)
    go_simp
    refine hK9.out _ _ (fun h => absurd (by decide) h) ?_
    clear hK9 K9
    try simp only [Act.put, List.setIfInBounds_toArray, List.set_cons_zero, List.set_cons_succ]
    refine AnyK.done (by kernel_rfl) ?_ _
    refine NoPanic.normal ?_
    have P := HG.out.rGrow (o := 1) (by repeat (first | exact Fr.refl nob _ | apply Fr.drew | apply Fr.alloc)) q7 grow7 (fun k hk => by
      rcases hat7 k hk with ⟨h, _, _⟩ | ⟨h, c⟩
      · exact absurd h (by decide)
      · exact ⟨h, c⟩) rfl
    have P2 := Heap.shutR (cs := ceC (ceDone x s).2) (by
      have e : ceC (ceDone x s).2 = ceC ⟨x.k, s.log⟩ := by funext lv; simp [ceC, ceDone, ceNext, hm]
      rw [e]; exact P) hil
    have PP := Lib.hid P2
    clear P P2 q7 grow7 hat7 f7 HG QQ q7' q0
    go_wp2_with fail
    go_ret
    refine ⟨rfl, ?_⟩
    have h := PP.out
    unfold cellP
    rw [show (ceDone x s).2.log = s.log ++ [2, x.k, s.n] from by simp [ceDone, hm]]
    simpa using h
  · by_cases he : s.n.tmod 2 = 0
    · go_upto_region 9 with fail
      go_region
      go_upto_region 10 with fail
      generalize hK : w.heap.size = K at *
      have G0 := (ce_stage HH.out (wrap64 (wrap64 (3 * s.n) + x.k)) #[.int .u8 x.d, .int .i8 x.k] 56).drew
      rw [hK] at G0
      generalize hWW : ((w.setCell ⟨cb, 0, none⟩ (.int .i64 (wrap64 (wrap64 (3 * s.n) + x.k)))).alloc (.cells #[.int .u8 x.d, .int .i8 x.k] 56)).drew = W at *
      clear hWW
      have B := G0.blk l.length (b := cb) (t := 28) (c := ceC ⟨wrap64 (wrap64 (3 * s.n) + x.k), s.log⟩ (.slice a s.log.length c)) (by rw [List.append_assoc, List.getElem?_append_right (by simp)]; simp [ceC])
      have BT := G0.blk (l.length + 2) (b := K) (t := 56) (c := #[.int .u8 x.d, .int .i8 x.k]) (by rw [List.append_assoc, List.getElem?_append_right (by simp)]; simp)
      have c1 : W.cell? ⟨cb, 1, none⟩ = some (.slice a s.log.length c) := B.cell 1
      have z1 := B.froz 1
      have t0 : W.cell? ⟨K, 0, none⟩ = some (.int .u8 x.d) := BT.cell 0
      have t1 : W.cell? ⟨K, 1, none⟩ = some (.int .i8 x.k) := BT.cell 1
      have G1 := Heap.first G0
      have HA := Lib.hid (G1.rApart (by decide))
      obtain ⟨S0, hS0, _⟩ := G0.get (l.length + 1) (by rw [List.append_assoc, List.getElem?_append_right (by simp)]; simp; rfl)
      have hAK : ∀ g, (Value.slice a s.log.length c).ownBlock = some g → g ≠ K := fun g hg e => by
        obtain ⟨c', hc'⟩ := (hS0.2 g hg).2
        subst e
        exact hc'.ne BT (by decide) rfl
      have HAK := Lib.hid hAK
      have QQ := Lib.hid G1.rRow
      have HG := Lib.hid G1
      clear G0 G1 B BT HH hS0 hAK
      have q0 : W.drew.cell? ⟨K, 0, none⟩ = some (.int .u8 x.d) ∧ W.drew.cell? ⟨K, 1, none⟩ = some (.int .i8 x.k) ∧ W.drew.cell? ⟨cb, 1, none⟩ = some (.slice a s.log.length c) := ⟨t0, t1, c1⟩
      refine wp_region_noPanic ?_
      refine AnyK.start (ks := [17]) (S := fun w' => w'.cell? ⟨K, 0, none⟩ = some (.int .u8 x.d) ∧ w'.cell? ⟨K, 1, none⟩ = some (.int .i8 x.k) ∧ w'.cell? ⟨cb, 1, none⟩ = some (.slice a s.log.length c)) (by kernel_rfl) (by exact q0) (fun _ => ?_)
      obtain ⟨e1, e2⟩ := tc_facts x d0 d1 k0 k1 3 hm
      refine AnyK.take (i := 0) (v := ?_) rfl (by kernel_rfl) (by kernel_rfl) (by kernel_rfl) (by kernel_rfl) (fun _ _ _ h => h) (Or.inl ⟨by rfl, ?_⟩) (by exact q0) ?_
      rotate_left
      focus
        intro w9 hSw
        try dsimp only at hSw
        go_simp
        try with_reducible rfl
      try simp only [Act.put, List.setIfInBounds_toArray, List.set_cons_zero, List.set_cons_succ]
      refine AnyK.take (i := 1) (v := ?_) rfl (by kernel_rfl) (by kernel_rfl) (by kernel_rfl) (by kernel_rfl) (fun _ _ _ h => h) (Or.inl ⟨by rfl, ?_⟩) (by exact q0) ?_
      rotate_left
      focus
        intro w9 hSw
        try dsimp only at hSw
        go_simp
        try with_reducible rfl
      try simp only [Act.put, List.setIfInBounds_toArray, List.set_cons_zero, List.set_cons_succ]
      refine AnyK.take (i := 2) (v := ?_) rfl (by kernel_rfl) (by kernel_rfl) (by kernel_rfl) (by kernel_rfl) (fun _ _ _ h => h) (Or.inl ⟨by rfl, ?_⟩) (by exact q0) ?_
      rotate_left
      focus
        intro w9 hSw
        try dsimp only at hSw
        go_simp
        try with_reducible rfl
      try simp only [Act.put, List.setIfInBounds_toArray, List.set_cons_zero, List.set_cons_succ]
      refine AnyK.take (i := 3) (v := ?_) rfl (by kernel_rfl) (by kernel_rfl) (by kernel_rfl) (by kernel_rfl) (fun _ _ _ h => h) (Or.inl ⟨by rfl, ?_⟩) (by exact q0) ?_
      rotate_left
      focus
        intro w9 hSw
        try dsimp only at hSw
        go_simp
        try with_reducible rfl
      try simp only [Act.put, List.setIfInBounds_toArray, List.set_cons_zero, List.set_cons_succ]
      refine AnyK.take (i := 4) (v := ?_) rfl (by kernel_rfl) (by kernel_rfl) (by kernel_rfl) (by kernel_rfl) (fun _ _ _ h => h) (Or.inl ⟨by rfl, ?_⟩) (by exact q0) ?_
      rotate_left
      focus
        intro w9 hSw
        try dsimp only at hSw
        go_simp
        try with_reducible rfl
      try simp only [Act.put, List.setIfInBounds_toArray, List.set_cons_zero, List.set_cons_succ]
      refine AnyK.take (i := 5) (v := ?_) rfl (by kernel_rfl) (by kernel_rfl) (by kernel_rfl) (by kernel_rfl) (fun _ _ _ h => h) (Or.inl ⟨by rfl, ?_⟩) (by exact q0) ?_
      rotate_left
      focus
        intro w9 hSw
        try dsimp only at hSw
        go_simp
        try with_reducible rfl
      try simp only [Act.put, List.setIfInBounds_toArray, List.set_cons_zero, List.set_cons_succ]
      refine AnyK.take (i := 6) (v := ?_) rfl (by kernel_rfl) (by kernel_rfl) (by kernel_rfl) (by kernel_rfl) (fun _ _ _ h => h) (Or.inl ⟨by rfl, ?_⟩) (by exact q0) ?_
      rotate_left
      focus
        intro w9 hSw
        try dsimp only at hSw
        go_simp
        try with_reducible rfl
      try simp only [Act.put, List.setIfInBounds_toArray, List.set_cons_zero, List.set_cons_succ]
      refine AnyK.take (i := 7) (v := ?_) rfl (by kernel_rfl) (by kernel_rfl) (by kernel_rfl) (by kernel_rfl) (fun _ _ _ h => h) (Or.inl ⟨by rfl, ?_⟩) (by exact q0) ?_
      rotate_left
      focus
        intro w9 hSw
        try dsimp only at hSw
        go_simp
        try with_reducible rfl
      try simp only [Act.put, List.setIfInBounds_toArray, List.set_cons_zero, List.set_cons_succ]
      refine AnyK.take (i := 8) (v := ?_) rfl (by kernel_rfl) (by kernel_rfl) (by kernel_rfl) (by kernel_rfl) (fun _ _ _ h => h) (Or.inl ⟨by rfl, ?_⟩) (by exact q0) ?_
      rotate_left
      focus
        intro w9 hSw
        try dsimp only at hSw
        go_simp
        try with_reducible rfl
      try simp only [Act.put, List.setIfInBounds_toArray, List.set_cons_zero, List.set_cons_succ]
      refine AnyK.take (i := 9) (v := ?_) rfl (by kernel_rfl) (by kernel_rfl) (by kernel_rfl) (by kernel_rfl) (fun _ _ _ h => h) (Or.inl ⟨by rfl, ?_⟩) (by exact q0) ?_
      rotate_left
      focus
        intro w9 hSw
        try dsimp only at hSw
        go_simp
        try with_reducible rfl
      try simp only [Act.put, List.setIfInBounds_toArray, List.set_cons_zero, List.set_cons_succ]
      refine AnyK.take (i := 10) (v := ?_) rfl (by kernel_rfl) (by kernel_rfl) (by kernel_rfl) (by kernel_rfl) (fun _ _ _ h => h) (Or.inl ⟨by rfl, ?_⟩) (by exact q0) ?_
      rotate_left
      focus
        intro w9 hSw
        try dsimp only at hSw
        go_simp
        try with_reducible rfl
      try simp only [Act.put, List.setIfInBounds_toArray, List.set_cons_zero, List.set_cons_succ]
      refine AnyK.take (i := 11) (v := ?_) rfl (by kernel_rfl) (by kernel_rfl) (by kernel_rfl) (by kernel_rfl) (fun _ _ _ h => h) (Or.inl ⟨by rfl, ?_⟩) (by exact q0) ?_
      rotate_left
      focus
        intro w9 hSw
        try dsimp only at hSw
        go_simp
        try with_reducible rfl
      try simp only [Act.put, List.setIfInBounds_toArray, List.set_cons_zero, List.set_cons_succ]
      refine AnyK.take (i := 12) (v := ?_) rfl (by kernel_rfl) (by kernel_rfl) (by kernel_rfl) (by kernel_rfl) (fun _ _ _ h => h) (Or.inl ⟨by rfl, ?_⟩) (by exact q0) ?_
      rotate_left
      focus
        intro w9 hSw
        try dsimp only at hSw
        go_simp
        try with_reducible rfl
      try simp only [Act.put, List.setIfInBounds_toArray, List.set_cons_zero, List.set_cons_succ]
      clear e1 e2
      refine AnyK.one (i := 13) (by kernel_rfl) rfl (fun K9 hK9 => ?_)
      go_simp
      refine hK9.out _ _ (fun _ => ⟨Fr.cell' (by repeat (first | exact Fr.refl nob W | apply Fr.drew | apply Fr.alloc)) t0 (fun x => x), Fr.cell' (by repeat (first | exact Fr.refl nob W | apply Fr.drew | apply Fr.alloc)) t1 (fun x => x), Fr.cell' (by repeat (first | exact Fr.refl nob W | apply Fr.drew | apply Fr.alloc)) c1 (fun x => x)⟩) ?_
      clear hK9 K9
      try simp only [Act.put, List.setIfInBounds_toArray, List.set_cons_zero, List.set_cons_succ]
      refine AnyK.one (i := 14) (by kernel_rfl) rfl (fun K9 hK9 => ?_)
      refine step_append_typed _ (by rfl) (.tmp 57) (.tmp 66) 26 (by rfl) 2 i0 (.int .i64 0) 1 8 Try.underlying26 I0.out.1 I0.out.2.1 I0.out.2.2.1 I0.out.2.2.2 rfl (by decide) (.slice a s.log.length c) s.log.length (s.log.map (Value.int .i64)) (by simp [Act.eval]) (QQ.out.fr (F := nob) (by repeat (first | exact Fr.refl _ _ | apply Fr.drew | apply Fr.alloc)) (fun _ _ _ x => x)) _ 3 [.int .i64 3, .int .i64 x.k, .int .i64 s.n] (by simp [Act.eval]; rfl) (RdV.block (cs := #[.int .i64 3, .int .i64 x.k, .int .i64 s.n]) (t := 2) (by repeat (first | exact Blk.new' rfl _ _ | apply Blk.drew | apply Blk.alloc)) rfl (by decide)) (by simp [Value.oneCell']) HL.out.1 HL.out.2 ?_
      intro a2 c2 w7 q7 grow7 hat7
      have f7 : Fr (fun j => (Value.slice a s.log.length c).ownBlock = some j) W w7 := Fr.grown (by repeat (first | exact Fr.refl _ _ | apply Fr.drew | apply Fr.alloc)) grow7 (fun k hk => .inl hk)
      have y1 := f7.cell' c1 HA.out
      have y2 := f7.froz' c1 z1 HA.out
      have q7' := And.intro (f7.cell' t0 (fun x => HAK.out _ x rfl)) (And.intro (f7.cell' t1 (fun x => HAK.out _ x rfl)) y1)
      refine hK9.out _ _ (fun _ => q7') ?_
      clear hK9 K9
      try simp only [Act.put, List.setIfInBounds_toArray, List.set_cons_zero, List.set_cons_succ]
      refine AnyK.one (i := 15) (by kernel_rfl) rfl (fun K9 hK9 => ?_)
      go_simp
      refine hK9.out _ _ (fun _ => q7') ?_
      clear hK9 K9
      try simp only [Act.put, List.setIfInBounds_toArray, List.set_cons_zero, List.set_cons_succ]
      refine AnyK.one (i := 16) (by kernel_rfl) rfl (fun K9 hK9 => ?_)
      go_simp
      refine hK9.out _ _ (fun _ => q7') ?_
      clear hK9 K9
      try simp only [Act.put, List.setIfInBounds_toArray, List.set_cons_zero, List.set_cons_succ]
      refine AnyK.one (i := 17) (by kernel_rfl) rfl (fun K9 hK9 => ?_)
      go_simp
      refine hK9.out _ _ (fun h => absurd (by decide) h) ?_
      clear hK9 K9
      try simp only [Act.put, List.setIfInBounds_toArray, List.set_cons_zero, List.set_cons_succ]
      refine AnyK.done (by kernel_rfl) ?_ _
      refine NoPanic.normal ?_
      have P := HG.out.rGrow (o := 1) (by repeat (first | exact Fr.refl nob _ | apply Fr.drew | apply Fr.alloc)) q7 grow7 (fun k hk => by
        rcases hat7 k hk with ⟨h, _, _⟩ | ⟨h, c⟩
        · exact absurd h (by decide)
        · exact ⟨h, c⟩) rfl
      have P2 := Heap.shutR (cs := ceC (ceDone x s).2) (by
        have e : ceC (ceDone x s).2 = ceC ⟨wrap64 (wrap64 (3 * s.n) + x.k), s.log⟩ := by funext lv; simp [ceC, ceDone, ceNext, hm, he]
        rw [e]; exact P) hil
      have PP := Lib.hid P2
      clear P P2 q7 grow7 hat7 f7 HG QQ q7' q0
      go_wp2_with fail
      go_ret
      refine ⟨rfl, ?_⟩
      have h := PP.out
      unfold cellP
      rw [show (ceDone x s).2.log = s.log ++ [3, x.k, s.n] from by simp [ceDone, hm]]
      simpa using h
    · go_upto_region 10 with fail
      generalize hK : w.heap.size = K at *
      have G0 := HH.out.alloc 56 #[.int .u8 x.d, .int .i8 x.k]
      rw [hK] at G0
      generalize hWW : w.alloc (.cells #[.int .u8 x.d, .int .i8 x.k] 56) = W at *
      clear hWW
      have B := G0.blk l.length (b := cb) (t := 28) (c := ceC ⟨s.n, s.log⟩ (.slice a s.log.length c)) (by rw [List.append_assoc, List.getElem?_append_right (by simp)]; simp [ceC])
      have BT := G0.blk (l.length + 2) (b := K) (t := 56) (c := #[.int .u8 x.d, .int .i8 x.k]) (by rw [List.append_assoc, List.getElem?_append_right (by simp)]; simp)
      have c1 : W.cell? ⟨cb, 1, none⟩ = some (.slice a s.log.length c) := B.cell 1
      have z1 := B.froz 1
      have t0 : W.cell? ⟨K, 0, none⟩ = some (.int .u8 x.d) := BT.cell 0
      have t1 : W.cell? ⟨K, 1, none⟩ = some (.int .i8 x.k) := BT.cell 1
      have G1 := Heap.first G0
      have HA := Lib.hid (G1.rApart (by decide))
      obtain ⟨S0, hS0, _⟩ := G0.get (l.length + 1) (by rw [List.append_assoc, List.getElem?_append_right (by simp)]; simp; rfl)
      have hAK : ∀ g, (Value.slice a s.log.length c).ownBlock = some g → g ≠ K := fun g hg e => by
        obtain ⟨c', hc'⟩ := (hS0.2 g hg).2
        subst e
        exact hc'.ne BT (by decide) rfl
      have HAK := Lib.hid hAK
      have QQ := Lib.hid G1.rRow
      have HG := Lib.hid G1
      clear G0 G1 B BT HH hS0 hAK
      have q0 : W.drew.cell? ⟨K, 0, none⟩ = some (.int .u8 x.d) ∧ W.drew.cell? ⟨K, 1, none⟩ = some (.int .i8 x.k) ∧ W.drew.cell? ⟨cb, 1, none⟩ = some (.slice a s.log.length c) := ⟨t0, t1, c1⟩
      refine wp_region_noPanic ?_
      refine AnyK.start (ks := [17]) (S := fun w' => w'.cell? ⟨K, 0, none⟩ = some (.int .u8 x.d) ∧ w'.cell? ⟨K, 1, none⟩ = some (.int .i8 x.k) ∧ w'.cell? ⟨cb, 1, none⟩ = some (.slice a s.log.length c)) (by kernel_rfl) (by exact q0) (fun _ => ?_)
      obtain ⟨e1, e2⟩ := tc_facts x d0 d1 k0 k1 3 hm
      refine AnyK.take (i := 0) (v := ?_) rfl (by kernel_rfl) (by kernel_rfl) (by kernel_rfl) (by kernel_rfl) (fun _ _ _ h => h) (Or.inl ⟨by rfl, ?_⟩) (by exact q0) ?_
      rotate_left
      focus
        intro w9 hSw
        try dsimp only at hSw
        go_simp
        try with_reducible rfl
      try simp only [Act.put, List.setIfInBounds_toArray, List.set_cons_zero, List.set_cons_succ]
      refine AnyK.take (i := 1) (v := ?_) rfl (by kernel_rfl) (by kernel_rfl) (by kernel_rfl) (by kernel_rfl) (fun _ _ _ h => h) (Or.inl ⟨by rfl, ?_⟩) (by exact q0) ?_
      rotate_left
      focus
        intro w9 hSw
        try dsimp only at hSw
        go_simp
        try with_reducible rfl
      try simp only [Act.put, List.setIfInBounds_toArray, List.set_cons_zero, List.set_cons_succ]
      refine AnyK.take (i := 2) (v := ?_) rfl (by kernel_rfl) (by kernel_rfl) (by kernel_rfl) (by kernel_rfl) (fun _ _ _ h => h) (Or.inl ⟨by rfl, ?_⟩) (by exact q0) ?_
      rotate_left
      focus
        intro w9 hSw
        try dsimp only at hSw
        go_simp
        try with_reducible rfl
      try simp only [Act.put, List.setIfInBounds_toArray, List.set_cons_zero, List.set_cons_succ]
      refine AnyK.take (i := 3) (v := ?_) rfl (by kernel_rfl) (by kernel_rfl) (by kernel_rfl) (by kernel_rfl) (fun _ _ _ h => h) (Or.inl ⟨by rfl, ?_⟩) (by exact q0) ?_
      rotate_left
      focus
        intro w9 hSw
        try dsimp only at hSw
        go_simp
        try with_reducible rfl
      try simp only [Act.put, List.setIfInBounds_toArray, List.set_cons_zero, List.set_cons_succ]
      refine AnyK.take (i := 4) (v := ?_) rfl (by kernel_rfl) (by kernel_rfl) (by kernel_rfl) (by kernel_rfl) (fun _ _ _ h => h) (Or.inl ⟨by rfl, ?_⟩) (by exact q0) ?_
      rotate_left
      focus
        intro w9 hSw
        try dsimp only at hSw
        go_simp
        try with_reducible rfl
      try simp only [Act.put, List.setIfInBounds_toArray, List.set_cons_zero, List.set_cons_succ]
      refine AnyK.take (i := 5) (v := ?_) rfl (by kernel_rfl) (by kernel_rfl) (by kernel_rfl) (by kernel_rfl) (fun _ _ _ h => h) (Or.inl ⟨by rfl, ?_⟩) (by exact q0) ?_
      rotate_left
      focus
        intro w9 hSw
        try dsimp only at hSw
        go_simp
        try with_reducible rfl
      try simp only [Act.put, List.setIfInBounds_toArray, List.set_cons_zero, List.set_cons_succ]
      refine AnyK.take (i := 6) (v := ?_) rfl (by kernel_rfl) (by kernel_rfl) (by kernel_rfl) (by kernel_rfl) (fun _ _ _ h => h) (Or.inl ⟨by rfl, ?_⟩) (by exact q0) ?_
      rotate_left
      focus
        intro w9 hSw
        try dsimp only at hSw
        go_simp
        try with_reducible rfl
      try simp only [Act.put, List.setIfInBounds_toArray, List.set_cons_zero, List.set_cons_succ]
      refine AnyK.take (i := 7) (v := ?_) rfl (by kernel_rfl) (by kernel_rfl) (by kernel_rfl) (by kernel_rfl) (fun _ _ _ h => h) (Or.inl ⟨by rfl, ?_⟩) (by exact q0) ?_
      rotate_left
      focus
        intro w9 hSw
        try dsimp only at hSw
        go_simp
        try with_reducible rfl
      try simp only [Act.put, List.setIfInBounds_toArray, List.set_cons_zero, List.set_cons_succ]
      refine AnyK.take (i := 8) (v := ?_) rfl (by kernel_rfl) (by kernel_rfl) (by kernel_rfl) (by kernel_rfl) (fun _ _ _ h => h) (Or.inl ⟨by rfl, ?_⟩) (by exact q0) ?_
      rotate_left
      focus
        intro w9 hSw
        try dsimp only at hSw
        go_simp
        try with_reducible rfl
      try simp only [Act.put, List.setIfInBounds_toArray, List.set_cons_zero, List.set_cons_succ]
      refine AnyK.take (i := 9) (v := ?_) rfl (by kernel_rfl) (by kernel_rfl) (by kernel_rfl) (by kernel_rfl) (fun _ _ _ h => h) (Or.inl ⟨by rfl, ?_⟩) (by exact q0) ?_
      rotate_left
      focus
        intro w9 hSw
        try dsimp only at hSw
        go_simp
        try with_reducible rfl
      try simp only [Act.put, List.setIfInBounds_toArray, List.set_cons_zero, List.set_cons_succ]
      refine AnyK.take (i := 10) (v := ?_) rfl (by kernel_rfl) (by kernel_rfl) (by kernel_rfl) (by kernel_rfl) (fun _ _ _ h => h) (Or.inl ⟨by rfl, ?_⟩) (by exact q0) ?_
      rotate_left
      focus
        intro w9 hSw
        try dsimp only at hSw
        go_simp
        try with_reducible rfl
      try simp only [Act.put, List.setIfInBounds_toArray, List.set_cons_zero, List.set_cons_succ]
      refine AnyK.take (i := 11) (v := ?_) rfl (by kernel_rfl) (by kernel_rfl) (by kernel_rfl) (by kernel_rfl) (fun _ _ _ h => h) (Or.inl ⟨by rfl, ?_⟩) (by exact q0) ?_
      rotate_left
      focus
        intro w9 hSw
        try dsimp only at hSw
        go_simp
        try with_reducible rfl
      try simp only [Act.put, List.setIfInBounds_toArray, List.set_cons_zero, List.set_cons_succ]
      refine AnyK.take (i := 12) (v := ?_) rfl (by kernel_rfl) (by kernel_rfl) (by kernel_rfl) (by kernel_rfl) (fun _ _ _ h => h) (Or.inl ⟨by rfl, ?_⟩) (by exact q0) ?_
      rotate_left
      focus
        intro w9 hSw
        try dsimp only at hSw
        go_simp
        try with_reducible rfl
      try simp only [Act.put, List.setIfInBounds_toArray, List.set_cons_zero, List.set_cons_succ]
      clear e1 e2
      refine AnyK.one (i := 13) (by kernel_rfl) rfl (fun K9 hK9 => ?_)
      go_simp
      refine hK9.out _ _ (fun _ => ⟨Fr.cell' (by repeat (first | exact Fr.refl nob W | apply Fr.drew | apply Fr.alloc)) t0 (fun x => x), Fr.cell' (by repeat (first | exact Fr.refl nob W | apply Fr.drew | apply Fr.alloc)) t1 (fun x => x), Fr.cell' (by repeat (first | exact Fr.refl nob W | apply Fr.drew | apply Fr.alloc)) c1 (fun x => x)⟩) ?_
      clear hK9 K9
      try simp only [Act.put, List.setIfInBounds_toArray, List.set_cons_zero, List.set_cons_succ]
      refine AnyK.one (i := 14) (by kernel_rfl) rfl (fun K9 hK9 => ?_)
      refine step_append_typed _ (by rfl) (.tmp 57) (.tmp 66) 26 (by rfl) 2 i0 (.int .i64 0) 1 8 Try.underlying26 I0.out.1 I0.out.2.1 I0.out.2.2.1 I0.out.2.2.2 rfl (by decide) (.slice a s.log.length c) s.log.length (s.log.map (Value.int .i64)) (by simp [Act.eval]) (QQ.out.fr (F := nob) (by repeat (first | exact Fr.refl _ _ | apply Fr.drew | apply Fr.alloc)) (fun _ _ _ x => x)) _ 3 [.int .i64 3, .int .i64 x.k, .int .i64 s.n] (by simp [Act.eval]; rfl) (RdV.block (cs := #[.int .i64 3, .int .i64 x.k, .int .i64 s.n]) (t := 2) (by repeat (first | exact Blk.new' rfl _ _ | apply Blk.drew | apply Blk.alloc)) rfl (by decide)) (by simp [Value.oneCell']) HL.out.1 HL.out.2 ?_
      intro a2 c2 w7 q7 grow7 hat7
      have f7 : Fr (fun j => (Value.slice a s.log.length c).ownBlock = some j) W w7 := Fr.grown (by repeat (first | exact Fr.refl _ _ | apply Fr.drew | apply Fr.alloc)) grow7 (fun k hk => .inl hk)
      have y1 := f7.cell' c1 HA.out
      have y2 := f7.froz' c1 z1 HA.out
      have q7' := And.intro (f7.cell' t0 (fun x => HAK.out _ x rfl)) (And.intro (f7.cell' t1 (fun x => HAK.out _ x rfl)) y1)
      refine hK9.out _ _ (fun _ => q7') ?_
      clear hK9 K9
      try simp only [Act.put, List.setIfInBounds_toArray, List.set_cons_zero, List.set_cons_succ]
      refine AnyK.one (i := 15) (by kernel_rfl) rfl (fun K9 hK9 => ?_)
      go_simp
      refine hK9.out _ _ (fun _ => q7') ?_
      clear hK9 K9
      try simp only [Act.put, List.setIfInBounds_toArray, List.set_cons_zero, List.set_cons_succ]
      refine AnyK.one (i := 16) (by kernel_rfl) rfl (fun K9 hK9 => ?_)
      go_simp
      refine hK9.out _ _ (fun _ => q7') ?_
      clear hK9 K9
      try simp only [Act.put, List.setIfInBounds_toArray, List.set_cons_zero, List.set_cons_succ]
      refine AnyK.one (i := 17) (by kernel_rfl) rfl (fun K9 hK9 => ?_)
      go_simp
      refine hK9.out _ _ (fun h => absurd (by decide) h) ?_
      clear hK9 K9
      try simp only [Act.put, List.setIfInBounds_toArray, List.set_cons_zero, List.set_cons_succ]
      refine AnyK.done (by kernel_rfl) ?_ _
      refine NoPanic.normal ?_
      have P := HG.out.rGrow (o := 1) (by repeat (first | exact Fr.refl nob _ | apply Fr.drew | apply Fr.alloc)) q7 grow7 (fun k hk => by
        rcases hat7 k hk with ⟨h, _, _⟩ | ⟨h, c⟩
        · exact absurd h (by decide)
        · exact ⟨h, c⟩) rfl
      have P2 := Heap.shutR (cs := ceC (ceDone x s).2) (by
        have e : ceC (ceDone x s).2 = ceC ⟨s.n, s.log⟩ := by funext lv; simp [ceC, ceDone, ceNext, hm, he]
        rw [e]; exact P) hil
      have PP := Lib.hid P2
      clear P P2 q7 grow7 hat7 f7 HG QQ q7' q0
      go_wp2_with fail
      go_ret
      refine ⟨rfl, ?_⟩
      have h := PP.out
      unfold cellP
      rw [show (ceDone x s).2.log = s.log ++ [3, x.k, s.n] from by simp [ceDone, hm]]
      simpa using h
end
end Go.Proofs.Ytblijgdmfohfcaa
