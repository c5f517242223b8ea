/- RecordRuns: what is had, in memory. No condition. -/
import Derived.Test.YtdikkndphimjaaaRws
import Derived.Test.YtdikkndphimjaaaRac
import Derived.Test.YtdikkndphimjaaaRecH
import Derived.Test.YtdikkndphimjaaaRecF
import Derived.Test.YtdikkndphimjaaaRecG
namespace Go.Proofs.Ytdikkndphimjaaa
open Go Go.RowKit
set_option linter.unusedVariables false
set_option linter.unusedSimpArgs false
set_option maxRecDepth 100000
/-- A record that was made, and where its two rows lie. -/
structure HE where
  vn : Value
  vi : Value
  e : Ent
def heC (x : HE) : List Value := [x.vn, x.vi, .int .i64 x.e.keep, .int .i64 x.e.way, .int .i64 x.e.old, .int .i64 x.e.new, .int .u8 x.e.st, .bool x.e.all]
theorem heC_len (x : HE) : (heC x).length = 8 := rfl
def heIn (w : World) (S : Nat → Prop) (x : HE) : Prop := (rdP 1 x.vn x.e.nodes.length (intC x.e.nodes)).holds w S ∧ (rdP 1 x.vi x.e.infos.length (intC x.e.infos)).holds w S
def heldP (hs : List HE) : Piece := ⟨fun w S => ∀ x ∈ hs, heIn w S x, fun h hf hn hl x hx => ⟨(rdP 1 x.vn x.e.nodes.length (intC x.e.nodes)).keep (h x hx).1 hf hn hl, (rdP 1 x.vi x.e.infos.length (intC x.e.infos)).keep (h x hx).2 hf hn hl⟩⟩
def y0 : HE := ⟨.slice none 0 0, .slice none 0 0, zeroEnt⟩
def fewE (x : HE) : Prop := x.e.nodes.length ≤ 20 ∧ x.e.infos.length ≤ 20
theorem info_entry : (Try.prog.info? 48).map (fun i => (i.zero, i.size, i.bytes)) = some (some (.agg #[.slice none 0 0, .slice none 0 0, .int .i64 0, .int .i64 0, .int .i64 0, .int .i64 0, .int .u8 0, .bool false]), 8, 88) := by kernel_rfl
section
variable {w0 w : World} {L : List Piece} {hs : List HE}
theorem Heap.held (h : Heap w0 w L) (i : Nat) (hi : L[i]? = some (heldP hs)) {x : HE} (hx : x ∈ hs) : RdV w x.vn x.e.nodes.length 1 (intC x.e.nodes) ∧ RdV w x.vi x.e.infos.length 1 (intC x.e.infos) := by
  obtain ⟨S, h1, _⟩ := h.get i hi
  exact ⟨(h1 x hx).1.1, (h1 x hx).2.1⟩
theorem held_merge {a b c d : Piece} {hs2 : List HE} (h : Heap w0 w [a, b, heldP hs, c, d, heldP hs2]) : Heap w0 w [a, b, heldP (hs ++ hs2), c, d] := by
  have h1 : Heap w0 w ([a, b] ++ [c, d] ++ [heldP hs, heldP hs2]) := by
    have h0 : Heap w0 w ([a, b] ++ [heldP hs] ++ [c, d]) := h.first (l := [a, b, heldP hs, c, d]) (r := [heldP hs2])
    refine h.idx (fun i => if i = 0 then 0 else if i = 1 then 1 else if i = 2 then 3 else if i = 3 then 4 else if i = 4 then 2 else 5) (fun i hi => ?_) (fun i j hi hj e => ?_)
    · simp at hi
      rcases (by omega : i = 0 ∨ i = 1 ∨ i = 2 ∨ i = 3 ∨ i = 4 ∨ i = 5) with rfl | rfl | rfl | rfl | rfl | rfl <;> rfl
    · simp at hi hj
      split at e <;> split at e <;> (try split at e) <;> (try split at e) <;> (try split at e) <;> (try split at e) <;> (try split at e) <;> (try split at e) <;> (try split at e) <;> (try split at e) <;> omega
  have h2 := h1.pack
  have h3 : Heap w0 w (([a, b] ++ [c, d]) ++ [heldP (hs ++ hs2)]) := h2.impEnd (fun S hS => by
    have hS : Many w [heldP hs, heldP hs2] S := hS
    obtain ⟨T, t1, t2⟩ := hS.get 0 rfl
    obtain ⟨U, u1, u2⟩ := hS.get 1 rfl
    intro x hx
    rcases List.mem_append.1 hx with hx | hx
    · exact ⟨⟨(t1 x hx).1.1, fun g hg => (t2 g ((t1 x hx).1.2 g hg)).1⟩, ⟨(t1 x hx).2.1, fun g hg => (t2 g ((t1 x hx).2.2 g hg)).1⟩⟩
    · exact ⟨⟨(u1 x hx).1.1, fun g hg => (u2 g ((u1 x hx).1.2 g hg)).1⟩, ⟨(u1 x hx).2.1, fun g hg => (u2 g ((u1 x hx).2.2 g hg)).1⟩⟩)
  exact h3.swapE (A := [a, b]) (B := [c, d]) (C := [heldP (hs ++ hs2)])
end
/-- What a call finds: none, or the record of this number. -/
def Fnd (hs : List HE) (n ip : Int) (y : HE) : Prop := (ip = -1 ∧ entOf (hs.map HE.e) n = none ∧ y = y0) ∨ ∃ p : Nat, ip = (p : Int) ∧ n = (p : Int) + 1 ∧ hs[p]? = some y
/-- What a call leaves. -/
def Lft (d : Int) (hs hs' : List HE) (es' : List Ent) (ip : Int) (y y' : HE) : Prop := (d % 6 = 0 ∧ es' = hs'.map HE.e ∧ hs'.length ≤ hs.length + 1 ∧ ∀ x ∈ hs', fewE x) ∨
  (d % 6 ≠ 0 ∧ hs' = hs ∧ y'.vn = y.vn ∧ y'.vi = y.vi ∧ y'.e.nodes = y.e.nodes ∧ y'.e.infos = y.e.infos ∧ (∀ p : Nat, ip = (p : Int) → es' = (hs.set p y').map HE.e) ∧ (ip = -1 → es' = hs.map HE.e))
theorem Fnd.ent {hs : List HE} {n ip : Int} {y : HE} (h : Fnd hs n ip y) : (entOf (hs.map HE.e) n).getD zeroEnt = y.e := by
  rcases h with ⟨_, h2, rfl⟩ | ⟨p, _, rfl, h3⟩
  · rw [h2]; rfl
  · unfold entOf
    rw [if_pos (by omega), show ((p : Int) + 1).toNat - 1 = p by omega, List.getElem?_map, h3]
    rfl
theorem Fnd.few {hs : List HE} {n ip : Int} {y : HE} (h : Fnd hs n ip y) (hf : ∀ x ∈ hs, fewE x) : fewE y := by
  rcases h with ⟨_, _, rfl⟩ | ⟨p, _, _, h3⟩
  · exact ⟨by simp [y0, zeroEnt], by simp [y0, zeroEnt]⟩
  · exact hf y (List.mem_of_getElem? h3)
theorem Fnd.rd {w0 w : World} {L : List Piece} {hs : List HE} {n ip : Int} {y : HE} (hy : Fnd hs n ip y) (h : Heap w0 w L) (i : Nat) (hi : L[i]? = some (heldP hs)) : RdV w y.vn y.e.nodes.length 1 (intC y.e.nodes) ∧ RdV w y.vi y.e.infos.length 1 (intC y.e.infos) := by
  rcases hy with ⟨_, _, rfl⟩ | ⟨p, _, _, h3⟩
  · exact ⟨⟨rfl, by simp [y0, zeroEnt], .inl ⟨rfl, rfl⟩⟩, ⟨rfl, by simp [y0, zeroEnt], .inl ⟨rfl, rfl⟩⟩⟩
  · exact h.held i hi (List.mem_of_getElem? h3)
theorem Fnd.stays {hs : List HE} {n ip d : Int} {y : HE} (h : Fnd hs n ip y) (hd : d % 6 ≠ 0) : Lft d hs hs (hs.map HE.e) ip y y := by
  refine .inr ⟨hd, rfl, rfl, rfl, rfl, rfl, fun p hp => ?_, fun _ => rfl⟩
  rcases h with ⟨h1, _, _⟩ | ⟨q, h1, _, h3⟩
  · omega
  · obtain rfl : q = p := by omega
    rw [show hs.set q y = hs from by
      obtain ⟨_, e⟩ := List.getElem?_eq_some_iff.1 h3
      subst e; exact List.set_getElem_self _]
theorem Fnd.puts {hs : List HE} {n ip d : Int} {y : HE} (h : Fnd hs n ip y) (hd : d % 6 ≠ 0) (f : Ent → Ent) (h1 : (f y.e).nodes = y.e.nodes) (h2 : (f y.e).infos = y.e.infos) : Lft d hs hs (putOf (hs.map HE.e) n f) ip y { y with e := f y.e } := by
  refine .inr ⟨hd, rfl, rfl, rfl, h1, h2, fun p hp => ?_, fun hp => ?_⟩
  · rcases h with ⟨h1, _, _⟩ | ⟨q, h1, hn, h3⟩
    · omega
    · obtain rfl : q = p := by omega
      have he : entOf (hs.map HE.e) n = some y.e := by
        unfold entOf
        rw [hn, if_pos (by omega), show ((q : Int) + 1).toNat - 1 = q by omega, List.getElem?_map, h3]
        rfl
      unfold putOf
      rw [he]
      dsimp only
      rw [hn, show ((q : Int) + 1).toNat - 1 = q by omega, List.map_set]
  · rcases h with ⟨h1, h2, _⟩ | ⟨q, h1, _, _⟩
    · unfold putOf; rw [h2]
    · omega
theorem Fnd.look {hs : List HE} {n ip m : Int} {y : HE} (h : Fnd hs n ip y) : lookRt n ⟨hs.map HE.e, m⟩ = y.e.rc := by
  have := h.ent
  unfold lookRt
  dsimp only
  cases he : entOf (hs.map HE.e) n with
  | none => rw [he] at this; rw [← this]; rfl
  | some e => rw [he] at this; rw [← this]; rfl
theorem Fnd.state {hs : List HE} {n ip m : Int} {y : HE} (h : Fnd hs n ip y) : stateRt n ⟨hs.map HE.e, m⟩ = y.e.st := by
  have := h.ent
  unfold stateRt
  dsimp only
  cases he : entOf (hs.map HE.e) n with
  | none => rw [he] at this; rw [← this]; rfl
  | some e => rw [he] at this; rw [← this]; rfl
theorem Fnd.all {hs : List HE} {n ip m : Int} {y : HE} (h : Fnd hs n ip y) : allRt n ⟨hs.map HE.e, m⟩ = y.e.all := by
  have := h.ent
  unfold allRt
  dsimp only
  cases he : entOf (hs.map HE.e) n with
  | none => rw [he] at this; rw [← this]; rfl
  | some e => rw [he] at this; rw [← this]; rfl
theorem short_any (an ai : Option Addr) (n m cn ci : Nat) (keep way old new : Int) (w : World) :
    Calls Try.prog 16 #[.agg #[.slice an n cn, .slice ai m ci, .int .i64 keep, .int .i64 way, .int .i64 old, .int .i64 new]] w fun e w' =>
      e = .returned (.bool (decide (n ≤ 20 ∧ m ≤ 20))) ∧ Fr nob w w' := by
  go_enter Try.func16, Try.ntmps16
  go_wp2
  all_goals
    go_ret
    refine ⟨ret_bool ?_, (Fr.refl _ _).alloc _⟩
    rw [Bool.eq_iff_iff]
    simp
    try omega
theorem room_is {most : Int} {n : Nat} : (n : Int) < lim most ↔ (n : Int) < min most 65536 := by unfold lim; omega
end Go.Proofs.Ytdikkndphimjaaa
