/- An operation of touches of a cell (the laws' Make): its touch, its work, as a task. No condition but the bounds of size. -/
import Derived.Test.YtblijgdmfohfcaaK5
import Derived.Test.YtblijgdmfohfcaaThG
namespace Go.Proofs.Ytblijgdmfohfcaa
open Go Go.RowKit
set_option linter.unusedVariables false
set_option linter.unusedSimpArgs false
/-- Touches, one behind the other; each with an odd answer passes the next one over. -/
def prg : Bool → List Tc → List Int → Prog Ce (List Int)
  | _, [], out => .ret out
  | true, _ :: r, out => prg false r out
  | false, x :: r, out => .ask (ceDone x) fun n => prg (decide (n.tmod 2 ≠ 0)) r (out ++ [n])
theorem prg_skip (l : List Tc) (out : List Int) : prg true l out = prg false (l.drop 1) out := by
  cases l with
  | nil => rfl
  | cons x r => cases r <;> rfl
theorem prg_ask (x : Tc) (r : List Tc) (out : List Int) : prg false (x :: r) out = .ask (ceDone x) fun n => prg (decide (n.tmod 2 ≠ 0)) r (out ++ [n]) := rfl
/-- Where the cell lies, and what the operation holds on to. -/
structure MkPl (pl : Pl Ce) (cb A B : Nat) (pv : Value) where
  ci : Nat
  ai : Nat
  bi : Nat
  cget : ∀ s T, (pl.F s T)[ci]? = some (cellP cb s)
  cput : ∀ s T s', (pl.F s T).set ci (cellP cb s') = pl.F s' T
  aget : ∀ s T, (pl.F s T)[ai]? = some (blkP A 22 #[pv])
  bget : ∀ s T, (pl.F s T)[bi]? = some (blkP B 25 #[.pointer (some ⟨cb, 0, none⟩)])
def ceOk (s : Ce) : Prop := s.log.length ≤ 900000
section
variable {w0 w : World} {pl : Pl Ce} {X : List Piece} {s : Ce} {T : Th} {cb A B I k : Nat}
set_option maxHeartbeats 8000000 in
set_option maxRecDepth 100000 in
theorem touch_calls {pa : Option Addr} {pc : Nat} {ps : List Tc} (mk : MkPl pl cb A B (.slice pa ps.length pc)) (h : Heap w0 w (pl.F s T ++ X)) (xi : Nat) (hxi : X[xi]? = some (blkP I 3 #[.int .i64 (k : Nat)])) (x : Tc) (hx0 : ps[k]? = some x) (hx : x.ok)
    (R : RdV w0 (.slice pa ps.length pc) ps.length 2 (tcC ps)) (hcl : s.log.length ≤ 1000000) :
    Calls Try.prog 34 #[.pointer (some ⟨B, 0, none⟩), .pointer (some ⟨A, 0, none⟩), .pointer (some ⟨I, 0, none⟩)] w fun e w' => e = .returned (.int .i64 (ceDone x s).1) ∧ Heap w0 w' (pl.F (ceDone x s).2 T ++ X) := by
  have hklt : k < ps.length := (List.getElem?_eq_some_iff.1 hx0).1
  obtain ⟨b1, rfl, hc1, hat1⟩ := R.at (by omega)
  have QC : ∀ z s', Heap w0 z (pl.F s' T ++ X) → z.cell? ⟨B, 0, none⟩ = some (.pointer (some ⟨cb, 0, none⟩)) ∧ z.cell? ⟨A, 0, none⟩ = some (.slice (some b1) ps.length pc) ∧ z.cell? ⟨I, 0, none⟩ = some (.int .i64 (k : Nat)) ∧ z.cell? (b1.add (k * 2)) = some (.int .u8 x.d) ∧ z.cell? ⟨(b1.add (k * 2)).block, (b1.add (k * 2)).off + 1, none⟩ = some (.int .i8 x.k) := fun z s' hz => by
    obtain ⟨b2, eb, _, hat2⟩ := (R.fr hz.fr (fun _ _ _ (x : nob _) => x)).at (by omega)
    obtain rfl := Option.some.inj eb
    have y0 := hat2 _ _ (tcC_get ps _ x hx0).1
    have y1 := hat2 _ _ (tcC_get ps _ x hx0).2
    rw [tc_field] at y1
    exact ⟨(hz.blk mk.bi (get_left (mk.bget s' T))).cell 0, (hz.blk mk.ai (get_left (mk.aget s' T))).cell 0, (hz.blk ((pl.F s' T).length + xi) (by rw [List.getElem?_append_right (by omega)]; simpa using hxi)).cell 0, y0, y1⟩
  have q0 := QC _ _ h.drew
  have Hd := h.drew
  clear hat1 hx0 hxi R h
  go_enter Try.func34, Try.ntmps34
  go_wp2_with fail
  refine wp_region_noPanic ?_
  refine AnyK.start (ks := []) (S := fun w' => w'.cell? ⟨B, 0, none⟩ = some (.pointer (some ⟨cb, 0, none⟩)) ∧ w'.cell? ⟨A, 0, none⟩ = some (.slice (some b1) ps.length pc) ∧ w'.cell? ⟨I, 0, none⟩ = some (.int .i64 (k : Nat)) ∧ w'.cell? (b1.add (k * 2)) = some (.int .u8 x.d) ∧ w'.cell? ⟨(b1.add (k * 2)).block, (b1.add (k * 2)).off + 1, none⟩ = some (.int .i8 x.k)) (by kernel_rfl) (by exact q0) (fun _ => ?_)
  refine AnyK.take (i := 0) (v := ?_) rfl (by kernel_rfl) (by kernel_rfl) (by kernel_rfl) (by kernel_rfl) (fun _ _ _ h => h) (Or.inl ⟨by rfl, ?_⟩) (by exact q0) ?_
  rotate_left
  focus
    intro w9 hSw
    try dsimp only at hSw
    go_simp
    try with_reducible rfl
  try simp only [Act.put, List.setIfInBounds_toArray, List.set_cons_zero, List.set_cons_succ]
  refine AnyK.take (i := 1) (v := ?_) rfl (by kernel_rfl) (by kernel_rfl) (by kernel_rfl) (by kernel_rfl) (fun _ _ _ h => h) (Or.inl ⟨by rfl, ?_⟩) (by exact q0) ?_
  rotate_left
  focus
    intro w9 hSw
    try dsimp only at hSw
    go_simp
    try with_reducible rfl
  try simp only [Act.put, List.setIfInBounds_toArray, List.set_cons_zero, List.set_cons_succ]
  refine AnyK.take (i := 2) (v := ?_) rfl (by kernel_rfl) (by kernel_rfl) (by kernel_rfl) (by kernel_rfl) (fun _ _ _ h => h) (Or.inl ⟨by rfl, ?_⟩) (by exact q0) ?_
  rotate_left
  focus
    intro w9 hSw
    try dsimp only at hSw
    go_simp
    try with_reducible rfl
  try simp only [Act.put, List.setIfInBounds_toArray, List.set_cons_zero, List.set_cons_succ]
  refine AnyK.take (i := 3) (v := ?_) rfl (by kernel_rfl) (by kernel_rfl) (by kernel_rfl) (by kernel_rfl) (fun _ _ _ h => h) (Or.inl ⟨by rfl, ?_⟩) (by exact q0) ?_
  rotate_left
  focus
    intro w9 hSw
    try dsimp only at hSw
    go_simp
    try with_reducible rfl
  try simp only [Act.put, List.setIfInBounds_toArray, List.set_cons_zero, List.set_cons_succ]
  refine AnyK.take (i := 4) (v := ?_) rfl (by kernel_rfl) (by kernel_rfl) (by kernel_rfl) (by kernel_rfl) (fun _ _ _ h => h) (Or.inl ⟨by rfl, ?_⟩) (by exact q0) ?_
  rotate_left
  focus
    intro w9 hSw
    try dsimp only at hSw
    go_simp
    try with_reducible rfl
  try simp only [Act.put, List.setIfInBounds_toArray, List.set_cons_zero, List.set_cons_succ]
  refine AnyK.one (i := 5) (by kernel_rfl) rfl (fun K9 hK9 => ?_)
  go_simp
  refine (CDone_h Hd mk.ci (get_left (mk.cget s T)) x hx.1 hx.2 hcl).mono ?_
  rintro e w3 ⟨rfl, H3⟩
  rw [List.set_append_left _ _ (List.getElem?_eq_some_iff.1 (mk.cget s T)).1, mk.cput] at H3
  have q3 := QC w3 _ H3
  refine hK9.out _ _ (fun _ => q3) ?_
  clear hK9 K9
  try simp only [Act.put, List.setIfInBounds_toArray, List.set_cons_zero, List.set_cons_succ]
  refine AnyK.one (i := 6) (by kernel_rfl) rfl (fun K9 hK9 => ?_)
  go_simp
  refine hK9.out _ _ (fun _ => q3) ?_
  clear hK9 K9
  try simp only [Act.put, List.setIfInBounds_toArray, List.set_cons_zero, List.set_cons_succ]
  refine AnyK.done (by kernel_rfl) ?_ _
  refine NoPanic.normal ?_
  go_wp2_with fail
  go_ret
  exact ⟨rfl, H3⟩
end
end Go.Proofs.Ytblijgdmfohfcaa
