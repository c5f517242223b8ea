/- The arena: what it is in memory. No condition. -/
import Derived.Test.YtolkpmbmgiplcaaRef
namespace Go.Proofs.Ytolkpmbmgiplcaa
open Go Go.RowKit
set_option linter.unusedVariables false
set_option linter.unusedSimpArgs false
/-- A node: a leaf's pairs, an inner one's keys and ways. -/
structure Nd where
  inner : Bool
  tagged : Bool
  pairs : List (Int × Int)
  keys : List Int
  ways : List Int
deriving Inhabited
/-- A place: its node; what changes: ways, record, mark; how often it was used, whether it is. -/
structure Sl where
  nd : Nd
  ways : List Int
  info : Int
  mark : Bool
  count : Nat
  used : Bool
deriving Inhabited
structure Ar where
  slots : List Sl
  free : List Nat
  most : Int
  used : Int
  faults : Int
def pairC (l : List (Int × Int)) : List Value := l.flatMap fun p => [.int .i64 p.1, .int .i64 p.2]
def intC (l : List Int) : List Value := l.map (Value.int .i64)
/-- A place's four slices: pairs, keys, the ways at first, the ways. -/
structure Vs where
  p : Value
  k : Value
  n : Value
  w : Value
def slotC (s : Sl) (v : Vs) : List Value := [.bool s.nd.inner, .bool s.nd.tagged, v.p, v.k, v.n, v.w, .int .i64 s.info, .bool s.mark, .int .u32 s.count, .bool s.used]
theorem slotC_length (s : Sl) (v : Vs) : (slotC s v).length = 10 := rfl
/-- A place's slices. -/
def slotP (s : Sl) (v : Vs) : Piece := manyP [rdP 2 v.p s.nd.pairs.length (pairC s.nd.pairs), rdP 1 v.k s.nd.keys.length (intC s.nd.keys), rdP 1 v.n s.nd.ways.length (intC s.nd.ways), rowP 27 1 v.w s.ways.length (intC s.ways)]
/-- The cells of all places. -/
def slotsC (sl : List (Sl × Vs)) : List Value := sl.flatMap fun x => slotC x.1 x.2
theorem slotsC_length (sl : List (Sl × Vs)) : (slotsC sl).length = sl.length * 10 := by
  induction sl with
  | nil => rfl
  | cons x l ih => simp only [slotsC, List.flatMap_cons, List.length_append, List.length_cons, slotC_length] at ih ⊢; omega
theorem slotsC_get : ∀ (sl : List (Sl × Vs)) (i j : Nat) (x : Sl × Vs), sl[i]? = some x → j < 10 → (slotsC sl)[i * 10 + j]? = (slotC x.1 x.2)[j]?
  | [], i, j, x, h, _ => by simp at h
  | y :: l, 0, j, x, h, hj => by
    simp at h; subst h
    rw [slotsC, List.flatMap_cons, List.getElem?_append_left (by rw [slotC_length]; omega)]
    simp
  | y :: l, i + 1, j, x, h, hj => by
    simp at h
    have := slotsC_get l i j x h hj
    rw [slotsC, List.flatMap_cons, List.getElem?_append_right (by rw [slotC_length]; omega), slotC_length, show (i + 1) * 10 + j - 10 = i * 10 + j from by omega]
    exact this
theorem slotsC_set : ∀ (sl : List (Sl × Vs)) (i j : Nat) (x y : Sl × Vs) (u : Value), sl[i]? = some x → j < 10 → slotC y.1 y.2 = (slotC x.1 x.2).set j u → slotsC (sl.set i y) = (slotsC sl).set (i * 10 + j) u
  | [], i, j, x, y, u, h, _, _ => by simp at h
  | z :: l, 0, j, x, y, u, h, hj, he => by
    simp at h; subst h
    simp only [List.set_cons_zero, slotsC, List.flatMap_cons]
    rw [he, List.set_append_left _ _ (by rw [slotC_length]; omega)]
    simp
  | z :: l, i + 1, j, x, y, u, h, hj, he => by
    simp at h
    have := slotsC_set l i j x y u h hj he
    simp only [List.set_cons_succ, slotsC, List.flatMap_cons] at this ⊢
    rw [this, List.set_append_right _ _ (by rw [slotC_length]; omega), slotC_length, show (i + 1) * 10 + j - 10 = i * 10 + j from by omega]
/-- An arena's pieces. -/
def arL (a : Nat) (vs vf : Value) (sl : List (Sl × Vs)) (ar : Ar) : List Piece :=
  [blkP a 78 #[vs, vf, .int .i64 ar.most, .int .i64 ar.used, .int .i64 ar.faults], rowP 80 10 vs sl.length (slotsC sl), rowP 3 1 vf ar.free.length (ar.free.map fun i => .int .i64 (i : Nat))] ++ sl.map fun x => slotP x.1 x.2
/-- An arena at block a, its blocks among S. -/
def Are (w : World) (a : Nat) (S : Nat → Prop) (ar : Ar) : Prop :=
  ∃ (vs vf : Value) (sl : List (Sl × Vs)), Many w (arL a vs vf sl ar) S ∧ sl.map (·.1) = ar.slots
theorem Are.keep {w w' : World} {a : Nat} {S F : Nat → Prop} {ar : Ar} (h : Are w a S ar) (hf : Fr F w w') (hn : ∀ k, S k → ¬ F k) : Are w' a S ar := by
  obtain ⟨vs, vf, sl, h1, h2⟩ := h
  exact ⟨vs, vf, sl, h1.keep hf hn, h2⟩
def areP (a : Nat) (ar : Ar) : Piece := ⟨fun w S => Are w a S ar, fun h hf hn _ => h.keep hf hn⟩
/-- Which place a reference means. -/
def arAt (ar : Ar) (r : Int) : Option Nat :=
  let p := r % 1099511627776 - 1
  if 0 ≤ p ∧ p < ar.slots.length ∧ (ar.slots.getD p.toNat default).used = true ∧ refOf p (ar.slots.getD p.toNat default).count = r then some p.toNat else none
/-- What is so of all arenas: bounds. -/
structure OkAr (ar : Ar) : Prop where
  most : 0 ≤ ar.most ∧ ar.most ≤ 65536
  used : -1000000 ≤ ar.used ∧ ar.used ≤ 1000000
  few : ar.slots.length ≤ 65536
  cnt : ∀ s ∈ ar.slots, s.count ≤ 1000000
  faults : 0 ≤ ar.faults ∧ ar.faults ≤ 1000000000
  free : ∀ i ∈ ar.free, i < ar.slots.length
  frees : ar.free.length ≤ 1000000
theorem set_id {α : Type} (l : List α) (i : Nat) (x : α) (h : l[i]? = some x) : l.set i x = l := by
  obtain ⟨hi, rfl⟩ := List.getElem?_eq_some_iff.1 h
  exact List.set_getElem_self hi
theorem map_set_id {α β : Type} (f : α → β) (l : List α) (i : Nat) (x y : α) (h : l[i]? = some x) (e : f y = f x) : (l.set i y).map f = l.map f := by
  rw [List.map_set, e, set_id]
  rw [List.getElem?_map, h]; rfl
/-- The arena's own cells. -/
theorem Are.head {w : World} {a : Nat} {S : Nat → Prop} {ar : Ar} (h : Are w a S ar) :
    ∃ (aS af : Option Addr) (cs cf : Nat), Blk w a 78 #[.slice aS ar.slots.length cs, .slice af ar.free.length cf, .int .i64 ar.most, .int .i64 ar.used, .int .i64 ar.faults] ∧ S a ∧
      (∀ n, Are (w.setCell ⟨a, 3, none⟩ (.int .i64 n)) a S { ar with used := n }) ∧ (∀ n, Are (w.setCell ⟨a, 4, none⟩ (.int .i64 n)) a S { ar with faults := n }) := by
  obtain ⟨vs, vf, sl, hM, hs⟩ := h
  have hlen : sl.length = ar.slots.length := by rw [← hs]; simp
  obtain ⟨T1, hr1, _⟩ := hM.get 1 rfl
  obtain ⟨T2, hr2, _⟩ := hM.get 2 rfl
  obtain ⟨aS, cs, rfl, _, _⟩ := hr1.1.form
  obtain ⟨af, cf, rfl, _, _⟩ := hr2.1.form
  obtain ⟨T0, hb0, hT0, U⟩ := hM.take 0 rfl
  refine ⟨aS, af, cs, cf, by rw [← hlen]; exact hb0.1, (hT0 a hb0.2).1, fun n => ?_, fun n => ?_⟩
  · have F := (Fr.refl T0 w).setCell (p := ⟨a, 3, none⟩) (.inl hb0.2) (.int .i64 n)
    exact ⟨_, _, sl, U (S' := S) (T' := T0) (p' := blkP a 78 #[.slice aS sl.length cs, .slice af ar.free.length cf, .int .i64 ar.most, .int .i64 n, .int .i64 ar.faults]) F ⟨hb0.1.set 3 _, hb0.2⟩ (fun _ x => .inl x) (fun _ x => x) (fun k hk => (hT0 k hk).1), hs⟩
  · have F := (Fr.refl T0 w).setCell (p := ⟨a, 4, none⟩) (.inl hb0.2) (.int .i64 n)
    exact ⟨_, _, sl, U (S' := S) (T' := T0) (p' := blkP a 78 #[.slice aS sl.length cs, .slice af ar.free.length cf, .int .i64 ar.most, .int .i64 ar.used, .int .i64 n]) F ⟨hb0.1.set 4 _, hb0.2⟩ (fun _ x => .inl x) (fun _ x => x) (fun k hk => (hT0 k hk).1), hs⟩
theorem arL_slot {a : Nat} {vs vf : Value} {sl : List (Sl × Vs)} {ar : Ar} {p : Nat} {x : Sl × Vs} (h : sl[p]? = some x) : (arL a vs vf sl ar)[3 + p]? = some (slotP x.1 x.2) := by
  unfold arL
  rw [List.getElem?_append_right (by simp)]
  simp [h]
/-- What stands in a place. -/
theorem Are.slot {w : World} {a : Nat} {S : Nat → Prop} {ar : Ar} (h : Are w a S ar) {p : Nat} {s : Sl} (hp : ar.slots[p]? = some s) :
    ∃ (g off cap cf : Nat) (af : Option Addr) (v : Vs), Blk w a 78 #[.slice (some ⟨g, off, none⟩) ar.slots.length cap, .slice af ar.free.length cf, .int .i64 ar.most, .int .i64 ar.used, .int .i64 ar.faults] ∧ S a ∧ S g ∧ a ≠ g ∧ ar.slots.length ≤ cap ∧
      (∀ j u, (slotC s v)[j]? = some u → w.cell? ⟨g, off + p * 10 + j, none⟩ = some u) ∧ (∀ j, w.frozen? ⟨g, j, none⟩ = false) ∧
      (RdV w v.p s.nd.pairs.length 2 (pairC s.nd.pairs) ∧ RdV w v.k s.nd.keys.length 1 (intC s.nd.keys) ∧ RdV w v.n s.nd.ways.length 1 (intC s.nd.ways) ∧ QRow w 27 1 v.w s.ways.length (intC s.ways)) ∧
      (∀ (gw ow cw : Nat), v.w = .slice (some ⟨gw, ow, none⟩) s.ways.length cw → S gw ∧ ∀ (i : Nat) (n : Int), i < s.ways.length → Are (w.setCell ⟨gw, ow + i, none⟩ (.int .i64 n)) a S { ar with slots := ar.slots.set p { s with ways := s.ways.set i n } }) ∧
      ∀ (j : Nat) (u : Value) (s' : Sl), j < 10 → slotC s' v = (slotC s v).set j u → s'.nd = s.nd → s'.ways = s.ways → Are (w.setCell ⟨g, off + p * 10 + j, none⟩ u) a S { ar with slots := ar.slots.set p s' } := by
  obtain ⟨vs, vf, sl, hM, hs⟩ := h
  have hlen : sl.length = ar.slots.length := by rw [← hs]; simp
  have hpl : p < sl.length := by
    have := (List.getElem?_eq_some_iff.1 hp).1
    omega
  obtain ⟨⟨s0, v⟩, hx⟩ : ∃ x, sl[p]? = some x := ⟨_, List.getElem?_eq_getElem hpl⟩
  obtain rfl : s0 = s := by
    rw [← hs, List.getElem?_map, hx] at hp
    simpa using hp
  obtain ⟨T2, hr2, _⟩ := hM.get 2 rfl
  obtain ⟨af, cf, rfl, _, _⟩ := hr2.1.form
  obtain ⟨T0, hb0, hT0⟩ := hM.get 0 rfl
  obtain ⟨T1, hr1, hT1, U⟩ := hM.take 1 rfl
  obtain ⟨aS, cs, rfl, hcap, _⟩ := hr1.1.form
  obtain ⟨g, off, cur, rfl, hbg, _, hat⟩ := hr1.1.at (by omega)
  have hg := (hr1.2 g rfl).1
  have hag : a ≠ g := hb0.1.ne hbg (by decide)
  refine ⟨g, off, cs, cf, af, v, by rw [← hlen]; exact hb0.1, (hT0 a hb0.2).1, (hT1 g hg).1, hag, by omega, fun j u hu => ?_, fun j => hbg.froz j, ?_, fun gw ow cw hv => ?_, fun j u s' hj he hn hw => ?_⟩
  · have hj : j < 10 := by
      have := (List.getElem?_eq_some_iff.1 hu).1
      rwa [slotC_length] at this
    have := hat (p * 10 + j) u (by rw [slotsC_get sl p j _ hx hj]; exact hu)
    rwa [show off + (p * 10 + j) = off + p * 10 + j from by omega] at this
  · obtain ⟨T, hm, _⟩ := hM.get (3 + p) (arL_slot hx)
    have hm : Many w _ T := hm
    obtain ⟨_, r0, _⟩ := hm.get 0 rfl
    obtain ⟨_, r1, _⟩ := hm.get 1 rfl
    obtain ⟨_, r2, _⟩ := hm.get 2 rfl
    obtain ⟨_, r3, _⟩ := hm.get 3 rfl
    exact ⟨r0.1, r1.1, r2.1, r3.1⟩
  · obtain ⟨T, hm, hT, UO⟩ := hM.take (3 + p) (arL_slot hx)
    have hm : Many w _ T := hm
    obtain ⟨T3, r3, hT3, UI⟩ := hm.take 3 rfl
    rw [hv] at r3
    refine ⟨(hT gw (hT3 gw (r3.2 gw rfl).1).1).1, fun i n hi => ?_⟩
    have hQ := r3.1.put i (by omega) (.int .i64 n)
    have hg3 := (r3.2 gw rfl).1
    have F3 := (Fr.refl T3 w).setCell (p := ⟨gw, ow + i, none⟩) (.inl hg3) (.int .i64 n)
    have F := (Fr.refl T w).setCell (p := ⟨gw, ow + i, none⟩) (.inl (hT3 gw hg3).1) (.int .i64 n)
    have hI := UI (S' := T) (T' := T3) (p' := rowP 27 1 (.slice (some ⟨gw, ow, none⟩) s0.ways.length cw) s0.ways.length ((intC s0.ways).set i (.int .i64 n))) F3 ⟨hQ, fun k hk => by
      obtain ⟨x1, c, x2⟩ := r3.2 k hk
      simp [Value.ownBlock] at hk
      subst hk
      exact ⟨x1, _, x2.set _ _⟩⟩ (fun _ x => .inl x) (fun _ x => x) (fun k hk => (hT3 k hk).1)
    have hO := UO (S' := S) (T' := T) (p' := slotP { s0 with ways := s0.ways.set i n } v) F (by
      unfold slotP
      dsimp only
      rw [List.length_set, show intC (s0.ways.set i n) = (intC s0.ways).set i (.int .i64 n) from by unfold intC; rw [List.map_set], hv]
      rw [hv] at hI
      exact hI) (fun _ x => .inl x) (fun _ x => x) (fun k hk => (hT k hk).1)
    refine ⟨.slice (some ⟨g, off, none⟩) sl.length cs, .slice af ar.free.length cf, sl.set p ({ s0 with ways := s0.ways.set i n }, v), ?_, by rw [List.map_set, hs]⟩
    have e1 : slotsC (sl.set p ({ s0 with ways := s0.ways.set i n }, v)) = slotsC sl := by
      have := slotsC_set sl p 0 (s0, v) ({ s0 with ways := s0.ways.set i n }, v) (.bool s0.nd.inner) hx (by omega) rfl
      rw [this, set_id]
      rw [slotsC_get sl p 0 _ hx (by omega)]; rfl
    unfold arL at hO ⊢
    rw [List.length_set, e1, List.map_set]
    rw [List.set_append_right _ _ (by simp)] at hO
    simpa using hO
  · have F := (Fr.refl T1 w).setCell (p := ⟨g, off + p * 10 + j, none⟩) (.inl hg) u
    have hQ := hr1.1.put (p * 10 + j) (by omega) u
    rw [show off + (p * 10 + j) = off + p * 10 + j from by omega] at hQ
    rw [← slotsC_set sl p j (s0, v) (s', v) u hx hj he] at hQ
    have M := U (S' := S) (T' := T1) (p' := rowP 80 10 (.slice (some ⟨g, off, none⟩) sl.length cs) sl.length (slotsC (sl.set p (s', v)))) F ⟨hQ, fun k hk => ?_⟩ (fun _ x => .inl x) (fun _ x => x) (fun k hk => (hT1 k hk).1)
    · refine ⟨.slice (some ⟨g, off, none⟩) sl.length cs, .slice af ar.free.length cf, sl.set p (s', v), ?_, by rw [List.map_set, hs]⟩
      unfold arL at M ⊢
      rw [List.length_set, map_set_id (fun x : Sl × Vs => slotP x.1 x.2) sl p _ (s', v) hx (by simp only [slotP, hn, hw])]
      exact M
    · obtain ⟨x1, c, x2⟩ := hr1.2 k hk
      simp [Value.ownBlock] at hk
      subst hk
      exact ⟨x1, _, x2.set _ u⟩
end Go.Proofs.Ytolkpmbmgiplcaa
