/- The arena's New, and what its rows are; a place more. No condition. -/
import Derived.Test.YtolkpmbmgiplcaaAreC
import Derived.Test.YtolkpmbmgiplcaaClone
import Derived.Deep.RegionLaw
namespace Go.Proofs.Ytolkpmbmgiplcaa
open Go Go.RowKit
set_option linter.unusedVariables false
set_option linter.unusedSimpArgs false
def nilS : Value := .slice none 0 0
def noNd : Nd := ⟨false, false, [], [], []⟩
def noSl : Sl := ⟨noNd, [], 0, false, 0, false⟩
def noVs : Vs := ⟨nilS, nilS, nilS, nilS⟩
def intsC (l : List Nat) : List Value := l.map fun i => .int .i64 (i : Nat)
theorem rdP_nil (w : World) (sz : Nat) : (rdP sz nilS 0 []).holds w (fun _ => False) := ⟨⟨by simp, by simp, .inl ⟨rfl, rfl⟩⟩, fun g hg => by simp [nilS, Value.ownBlock] at hg⟩
theorem rowP_nil (w : World) (t : TypeId) (sz : Nat) : (rowP t sz nilS 0 []).holds w (fun _ => False) := ⟨QRow.nil _ _ _, fun g hg => by simp [nilS, Value.ownBlock] at hg⟩
theorem slotP_nil (w : World) : (slotP noSl noVs).holds w (fun _ => False) := by
  have h0 := Many.nil w (fun _ => False)
  have h1 := h0.push (Fr.refl _ _) (rdP_nil w 2) (fun _ x => x.elim) (fun _ x => x) (fun _ x => x)
  have h2 := h1.push (Fr.refl _ _) (rdP_nil w 1) (fun _ x => x.elim) (fun _ x => x) (fun _ x => x)
  have h3 := h2.push (Fr.refl _ _) (rdP_nil w 1) (fun _ x => x.elim) (fun _ x => x) (fun _ x => x)
  exact h3.push (Fr.refl _ _) (rowP_nil w 27 1) (fun _ x => x.elim) (fun _ x => x) (fun _ x => x)
/-- How many places there may be. -/
def limAr (n : Int) : Int := min (max n 0) 65536
def newAr (n : Int) : Ar := ⟨[], [], limAr n, 0, 0⟩
theorem New_h {w0 w : World} {l : List Piece} (h : Heap w0 w l) (n : Int) : Calls Try.prog 11 #[.int .i64 n] w fun e w' => e = .returned (.pointer (some ⟨w.heap.size, 0, none⟩)) ∧ Heap w0 w' (l ++ [areP w.heap.size (newAr n)]) := by
  have key : ∀ m, m = limAr n → Heap w0 (w.alloc (.cells #[nilS, nilS, .int .i64 m, .int .i64 0, .int .i64 0] 78)) (l ++ [areP w.heap.size (newAr n)]) := fun m hm => by
    subst hm
    refine h.push (S := fun k => k = w.heap.size) (Fr.alloc (Fr.refl _ _) _) ?_ (fun k hk => by subst hk; simp)
    generalize hw' : w.alloc (.cells #[nilS, nilS, .int .i64 (limAr n), .int .i64 0, .int .i64 0] 78) = w'
    have hb : Blk w' w.heap.size 78 #[nilS, nilS, .int .i64 (limAr n), .int .i64 0, .int .i64 0] := by rw [← hw']; exact Blk.new _ _ _
    have h0 := (Many.nil w (fun k => k = w.heap.size)).push (S' := fun k => k = w.heap.size) (w' := w') (p := blkP w.heap.size 78 #[nilS, nilS, .int .i64 (limAr n), .int .i64 0, .int .i64 0]) (T := fun k => k = w.heap.size) (by rw [← hw']; exact Fr.alloc (Fr.refl _ _) _) ⟨hb, rfl⟩ (fun k hk => by subst hk; exact ⟨Nat.le_refl _, hb.lt⟩) (fun _ x => x) (fun _ x => x)
    have h1 := h0.push (S' := fun k => k = w.heap.size) (Fr.refl _ _) (rowP_nil w' 80 10) (fun _ x => x.elim) (fun _ x => x) (fun _ x => x.elim)
    have h2 := h1.push (S' := fun k => k = w.heap.size) (Fr.refl _ _) (rowP_nil w' 3 1) (fun _ x => x.elim) (fun _ x => x) (fun _ x => x.elim)
    exact ⟨nilS, nilS, [], h2, rfl⟩
  have KEY := Lib.hid key
  clear key
  go_enter Try.func11, Try.ntmps11
  go_wp2
  all_goals
    go_ret
    refine ⟨rfl, ?_⟩
    first | exact KEY.out _ (by unfold limAr; omega)
section
variable {w0 w : World} {l : List Piece} {a : Nat} {ar : Ar}
/-- The row of what is free, as the heap has it. -/
theorem free_h (h : Heap w0 w l) (i : Nat) (hi : l[i]? = some (areP a ar)) :
    ∃ (aS af : Option Addr) (cs cf : Nat), Blk w a 78 #[.slice aS ar.slots.length cs, .slice af ar.free.length cf, .int .i64 ar.most, .int .i64 ar.used, .int .i64 ar.faults] ∧ QRow w 3 1 (.slice af ar.free.length cf) ar.free.length (intsC ar.free) ∧
      (∀ g, (Value.slice af ar.free.length cf).ownBlock = some g → g ≠ a ∧ ∃ c, Blk w g 3 c) ∧
      ∀ (w1 : World) (vf' : Value) (fr' : List Nat), Fr (fun k => (Value.slice af ar.free.length cf).ownBlock = some k) w w1 → QRow w1 3 1 vf' fr'.length (intsC fr') → (∀ g, vf'.ownBlock = some g → ((Value.slice af ar.free.length cf).ownBlock = some g ∨ w.heap.size ≤ g) ∧ ∃ c, Blk w1 g 3 c) →
        Heap w0 (w1.setCell ⟨a, 1, none⟩ vf') (l.set i (areP a { ar with free := fr' })) := by
  obtain ⟨S, hS, _, U⟩ := h.take i hi
  obtain ⟨vs, vf, sl, hM, hs⟩ := hS
  have hlen : sl.length = ar.slots.length := by rw [← hs]; simp
  obtain ⟨T1, hr1, _⟩ := hM.get 1 rfl
  obtain ⟨aS, cs, rfl, _, _⟩ := hr1.1.form
  obtain ⟨T0, hb0, hT0⟩ := hM.get 0 rfl
  obtain ⟨T2, hr2, hT2, U2⟩ := hM.take 2 rfl
  obtain ⟨af, cf, rfl, _, _⟩ := hr2.1.form
  refine ⟨aS, af, cs, cf, by rw [← hlen]; exact hb0.1, hr2.1, fun g hg => ?_, fun w1 vf' fr' F1 Q1 B1 => ?_⟩
  · obtain ⟨_, c, hc⟩ := hr2.2 g hg
    exact ⟨hc.ne hb0.1 (by decide), c, hc⟩
  · have F1' : Fr T2 w w1 := F1.mono (fun k _ hk => (hr2.2 k hk).1)
    have M1 := U2 (S' := wide S w w1) (T' := fun k => vf'.ownBlock = some k) (p' := rowP 3 1 vf' fr'.length (intsC fr')) F1' ⟨Q1, fun g hg => ⟨hg, (B1 g hg).2⟩⟩ (fun k hk => by
      obtain ⟨hx, c, hc⟩ := B1 k hk
      rcases hx with hx | hx
      · exact .inl (hr2.2 k hx).1
      · exact .inr ⟨hx, hc.lt⟩) (fun _ x => .inl x) (fun k hk => by
      obtain ⟨hx, c, hc⟩ := B1 k hk
      rcases hx with hx | hx
      · exact .inl (hT2 k (hr2.2 k hx).1).1
      · exact .inr ⟨hx, hc.lt⟩)
    have M1' : Many w1 (blkP a 78 #[.slice aS sl.length cs, .slice af ar.free.length cf, .int .i64 ar.most, .int .i64 ar.used, .int .i64 ar.faults] :: (arL a (.slice aS sl.length cs) vf' sl { ar with free := fr' }).tail) (wide S w w1) := by
      unfold arL at M1 ⊢
      simpa [intsC] using M1
    obtain ⟨T0', hb0', hT0', U0⟩ := M1'.take 0 rfl
    have F2 := (Fr.refl T0' w1).setCell (p := ⟨a, 1, none⟩) (.inl hb0'.2) vf'
    have Fa := (Fr.refl (fun k => k = a) w1).setCell (p := ⟨a, 1, none⟩) (.inl rfl) vf'
    have M2 := U0 (S' := wide S w w1) (T' := T0') (p' := blkP a 78 #[.slice aS sl.length cs, vf', .int .i64 ar.most, .int .i64 ar.used, .int .i64 ar.faults]) F2 ⟨hb0'.1.set 1 _, hb0'.2⟩ (fun _ x => .inl x) (fun _ x => x) (fun k hk => (hT0' k hk).1)
    have hz : (w1.setCell ⟨a, 1, none⟩ vf').heap.size = w1.heap.size := by simp [World.setCell]
    refine U (p' := areP a { ar with free := fr' }) (S' := wide S w w1) ((F1'.mono (fun k _ hk => (hT2 k hk).1)).trans Fa (fun k _ hk => by rw [hk]; exact (hT0 a hb0.2).1)) ⟨_, _, sl, M2, hs⟩ (fun k hk => ?_)
    rcases hk with hk | hk
    · exact .inl hk
    · exact .inr (by rw [hz]; exact hk)
/-- The row of places: a new place behind the others. -/
theorem grow_h (h : Heap w0 w l) (i : Nat) (hi : l[i]? = some (areP a ar)) :
    ∃ (aS af : Option Addr) (cs cf : Nat) (us : List Value), Blk w a 78 #[.slice aS ar.slots.length cs, .slice af ar.free.length cf, .int .i64 ar.most, .int .i64 ar.used, .int .i64 ar.faults] ∧ QRow w 80 10 (.slice aS ar.slots.length cs) ar.slots.length us ∧
      (∀ g, (Value.slice aS ar.slots.length cs).ownBlock = some g → g ≠ a ∧ ∃ c, Blk w g 80 c) ∧
      ∀ (w1 : World) (vs' : Value), Fr (fun k => (Value.slice aS ar.slots.length cs).ownBlock = some k) w w1 → QRow w1 80 10 vs' (ar.slots.length + 1) (us ++ slotC noSl noVs) → (∀ g, vs'.ownBlock = some g → ((Value.slice aS ar.slots.length cs).ownBlock = some g ∨ w.heap.size ≤ g) ∧ ∃ c, Blk w1 g 80 c) →
        Heap w0 (w1.setCell ⟨a, 0, none⟩ vs') (l.set i (areP a { ar with slots := ar.slots ++ [noSl] })) := by
  obtain ⟨S, hS, _, U⟩ := h.take i hi
  obtain ⟨vs, vf, sl, hM, hs⟩ := hS
  have hlen : sl.length = ar.slots.length := by rw [← hs]; simp
  obtain ⟨T2, hr2, _⟩ := hM.get 2 rfl
  obtain ⟨af, cf, rfl, _, _⟩ := hr2.1.form
  obtain ⟨T0, hb0, hT0⟩ := hM.get 0 rfl
  obtain ⟨T1, hr1, hT1, U1⟩ := hM.take 1 rfl
  obtain ⟨aS, cs, rfl, _, _⟩ := hr1.1.form
  rw [← hlen]
  refine ⟨aS, af, cs, cf, slotsC sl, hb0.1, hr1.1, fun g hg => ?_, fun w1 vs' F1 Q1 B1 => ?_⟩
  · obtain ⟨_, c, hc⟩ := hr1.2 g hg
    exact ⟨hc.ne hb0.1 (by decide), c, hc⟩
  · have F1' : Fr T1 w w1 := F1.mono (fun k _ hk => (hr1.2 k hk).1)
    have es : slotsC sl ++ slotC noSl noVs = slotsC (sl ++ [(noSl, noVs)]) := by simp [slotsC]
    rw [es] at Q1
    have M1 := U1 (S' := wide S w w1) (T' := fun k => vs'.ownBlock = some k) (p' := rowP 80 10 vs' (sl.length + 1) (slotsC (sl ++ [(noSl, noVs)]))) F1' ⟨Q1, fun g hg => ⟨hg, (B1 g hg).2⟩⟩ (fun k hk => by
      obtain ⟨hx, c, hc⟩ := B1 k hk
      rcases hx with hx | hx
      · exact .inl (hr1.2 k hx).1
      · exact .inr ⟨hx, hc.lt⟩) (fun _ x => .inl x) (fun k hk => by
      obtain ⟨hx, c, hc⟩ := B1 k hk
      rcases hx with hx | hx
      · exact .inl (hT1 k (hr1.2 k hx).1).1
      · exact .inr ⟨hx, hc.lt⟩)
    have M1' := M1.push (S' := wide S w w1) (Fr.refl _ _) (slotP_nil w1) (fun _ x => x.elim) (fun _ x => x) (fun _ x => x.elim)
    have M1'' : Many w1 (blkP a 78 #[.slice aS sl.length cs, .slice af ar.free.length cf, .int .i64 ar.most, .int .i64 ar.used, .int .i64 ar.faults] :: (arL a vs' (.slice af ar.free.length cf) (sl ++ [(noSl, noVs)]) ar).tail) (wide S w w1) := by
      unfold arL at M1' ⊢
      simpa using M1'
    obtain ⟨T0', hb0', hT0', U0⟩ := M1''.take 0 rfl
    have F2 := (Fr.refl T0' w1).setCell (p := ⟨a, 0, none⟩) (.inl hb0'.2) vs'
    have Fa := (Fr.refl (fun k => k = a) w1).setCell (p := ⟨a, 0, none⟩) (.inl rfl) vs'
    have M2 := U0 (S' := wide S w w1) (T' := T0') (p' := blkP a 78 #[vs', .slice af ar.free.length cf, .int .i64 ar.most, .int .i64 ar.used, .int .i64 ar.faults]) F2 ⟨hb0'.1.set 0 _, hb0'.2⟩ (fun _ x => .inl x) (fun _ x => x) (fun k hk => (hT0' k hk).1)
    have hz : (w1.setCell ⟨a, 0, none⟩ vs').heap.size = w1.heap.size := by simp [World.setCell]
    refine U (p' := areP a { ar with slots := ar.slots ++ [noSl] }) (S' := wide S w w1) ((F1'.mono (fun k _ hk => (hT1 k hk).1)).trans Fa (fun k _ hk => by rw [hk]; exact (hT0 a hb0.2).1)) ⟨vs', .slice af ar.free.length cf, sl ++ [(noSl, noVs)], M2, by simp [hs]⟩ (fun k hk => ?_)
    rcases hk with hk | hk
    · exact .inl hk
    · exact .inr (by rw [hz]; exact hk)
end
end Go.Proofs.Ytolkpmbmgiplcaa
