/- The arena: what it is in memory; what each call makes of it. No condition but the bounds of size. -/
import Derived.Test.YtkbnoceekileiaaRows
import Derived.Test.YtkbnoceekileiaaK1
import Derived.Laws.BitsLemmas
import Derived.IntWalk
import Derived.BigQuiet
import Derived.Deep.QuietTactic
import Derived.Deep.RegionLaw
import Derived.Deep.RegionWith
import Derived.Deep.DeepCutAuto
namespace Go.Proofs.Ytkbnoceekileiaa
open Go Go.RowKit
set_option maxRecDepth 100000
set_option linter.unusedVariables false
set_option linter.unusedSimpArgs false
/-- A reference: of a place, and a count. -/
def refOf (p c : Int) : Int := c * 1099511627776 + (p + 1)
theorem wraps_u32' (n : Int) (h₀ : 0 ≤ n) (h₁ : n < 2 ^ 32) : IntKind.u32.wrap n = n := by rw [IntKind.wrap_u32]; omega
theorem wraps_i64' (n : Int) (h₀ : 0 ≤ n) (h₁ : n < 2 ^ 63) : IntKind.i64.wrap n = n := by rw [IntKind.wrap_i64]; omega
theorem w64_in {n : Int} (h₀ : -9223372036854775808 ≤ n) (h₁ : n ≤ 9223372036854775807) : wrap64 n = n := by unfold wrap64; omega
theorem and23 (c : Int) (h0 : 0 ≤ c) (h1 : c ≤ 8000000) : bits .and .u32 c 8388607 = c := by
  have h := bits_mask .u32 32 (by decide) wraps_u32' 23 (by decide) c h0 (by omega)
  have e : ((2 : Int) ^ 23 - 1) = 8388607 := by decide
  have e2 : ((2 : Int) ^ 23) = 8388608 := by decide
  rw [e, e2] at h
  rw [h]
  omega
theorem and40 (n : Int) : bits .and .i64 n 1099511627775 = n % 1099511627776 := by
  have hm : (BitVec.ofInt 64 1099511627775).toNat = 2 ^ 40 - 1 := by decide
  have key : (BitVec.ofInt 64 n &&& BitVec.ofInt 64 1099511627775).toNat = (n % ((2 ^ 64 : Nat) : Int)).toNat % 2 ^ 40 := by
    rw [BitVec.toNat_and, BitVec.toNat_ofInt, hm, Nat.and_two_pow_sub_one_eq_mod]
  show IntKind.i64.wrap ((BitVec.ofInt 64 n &&& BitVec.ofInt 64 1099511627775).toNat : Nat) = _
  rw [key, IntKind.wrap_i64]
  omega
theorem or40 (x y : Int) (hx : 0 ≤ x) (hx0 : x % 1099511627776 = 0) (hx1 : x < 9223372036854775808) (h0 : 0 ≤ y) (h1 : y < 1099511627776) : bits .or .i64 x y = x + y :=
  bits_join .i64 63 (by decide) wraps_i64' 40 x y hx (by simpa using hx0) (by simpa using hx1) h0 (by simpa using h1) (by omega)
theorem Of_calls (p c : Int) (w : World) (hp : 0 ≤ p ∧ p ≤ 65535) (hc : 0 ≤ c ∧ c ≤ 8000000) : Calls Try.prog 77 #[.int .i64 p, .int .u32 c] w fun e w' => e = .returned (.int .i64 (refOf p c)) ∧ w' = w := by
  obtain ⟨p0, p1⟩ := hp
  obtain ⟨c0, c1⟩ := hc
  go_enter Try.func77, Try.ntmps77
  go_wp2
  go_ret
  refine ⟨ret_int ?_, rfl⟩
  unfold refOf
  rw [and23 c c0 c1, and40, w64_in (n := c) (by omega) (by omega), w64_in (by omega) (by omega), or40 _ _ (by omega) (by omega) (by omega) (by omega) (by omega)]
  omega
theorem Place_calls (r : Int) (w : World) : Calls Try.prog 78 #[.int .i64 r] w fun e w' => e = .returned (.int .i64 (r % 1099511627776 - 1)) ∧ w' = w := by
  go_enter Try.func78, Try.ntmps78
  go_wp2
  go_ret
  refine ⟨ret_int ?_, rfl⟩
  rw [and40, w64_in (by omega) (by omega)]
end Go.Proofs.Ytkbnoceekileiaa
namespace Go.Proofs.Ytkbnoceekileiaa
open Go Go.RowKit
set_option maxRecDepth 100000
set_option linter.unusedVariables false
set_option linter.unusedSimpArgs false
theorem info_pair : (Try.prog.info? 77).map (fun i => (i.zero, i.size, i.bytes)) = some (some (.agg #[.int .i64 0, .int .i64 0]), 2, 16) := by kernel_rfl
theorem Clone_pair (v : Value) (n : Nat) (us : List Value) (w : World) (h : RdV w v n 2 us) (h1 : ∀ u ∈ us, u.oneCell' = true) (hn : n ≤ 1000000) : Calls Try.prog 74 #[v] w (Cloned 77 2 n us w) := by
  have he := fun (w : World) (a : Option Addr) (n c : Nat) => Lib.run_eql_slice_nil (P := Try.prog) w 30 77 a n c 0 0 Try.underlying30
  obtain ⟨i0, hi, hz0, hz1, hz2⟩ := info_parts info_pair
  have H := Lib.hid h
  have hmax : 0 + n ≤ maxLen := by unfold maxLen; omega
  have hby : (0 + n) * 16 ≤ 140737488355328 := by omega
  obtain ⟨h0, _, hv⟩ := h
  rcases hv with ⟨rfl, rfl⟩ | ⟨a, c, rfl, _, _⟩
  · obtain rfl : us = [] := List.eq_nil_of_length_eq_zero (by simpa using h0)
    clear h0 h1
    go_enter Try.func74, Try.ntmps74
    go_wp2
    go_ret
    exact ⟨none, 0, rfl, QRow.nil _ _ _, fun g hg => by simp [Value.ownBlock] at hg, Fr.refl _ _⟩
  · clear h0
    go_enter Try.func74, Try.ntmps74
    go_wp2_with (at_builtin; refine wpList_append_typed _ rfl (.tmp 5) (.tmp 6) 30 rfl 77 i0 (.agg #[.int .i64 0, .int .i64 0]) 2 16 Try.underlying30 hi hz0 hz1 hz2 rfl (by decide) (.slice (some ⟨w.heap.size, 0, none⟩) 0 0) 0 [] rfl (QRow.none0 _ _) (.slice (some a) n c) n us rfl (H.out.fr ((Fr.refl nob w).alloc _) (fun _ _ _ x => x)) h1 hmax hby ?_)
    intro a' c' w' q' grow hat
    have F : Fr nob w w' := ((Fr.refl nob w).alloc _).grown grow (fun k hk => .inr (by simp [Value.ownBlock] at hk; omega))
    have FIN := Lib.hid (And.intro q' (And.intro grow hat))
    have hf := Lib.hid F
    clear q' grow hat F h1
    go_wp2
    go_ret
    obtain ⟨q', grow, hat⟩ := FIN.out
    have F := hf.out
    refine ⟨a', c', rfl, by simpa using q', fun g hg => ?_, F⟩
    rcases hat g hg with ⟨_, rfl, rfl, _, _⟩ | ⟨hx, cc, hb⟩
    · simp [Value.ownBlock] at hg
      subst hg
      exact ⟨Nat.le_refl _, by simp, _, Blk.new w _ _⟩
    · refine ⟨?_, hb.lt, cc, hb⟩
      rcases hx with hx | hx
      · simp [Value.ownBlock] at hx; omega
      · try simp at hx
        omega
theorem info_i64 : (Try.prog.info? 2).map (fun i => (i.zero, i.size, i.bytes)) = some (some (.int .i64 0), 1, 8) := by kernel_rfl
theorem Clone_i64 (v : Value) (n : Nat) (us : List Value) (w : World) (h : RdV w v n 1 us) (h1 : ∀ u ∈ us, u.oneCell' = true) (hn : n ≤ 1000000) : Calls Try.prog 75 #[v] w (Cloned 2 1 n us w) := by
  have he := fun (w : World) (a : Option Addr) (n c : Nat) => Lib.run_eql_slice_nil (P := Try.prog) w 22 2 a n c 0 0 Try.underlying22
  obtain ⟨i0, hi, hz0, hz1, hz2⟩ := info_parts info_i64
  have H := Lib.hid h
  have hmax : 0 + n ≤ maxLen := by unfold maxLen; omega
  have hby : (0 + n) * 8 ≤ 140737488355328 := by omega
  obtain ⟨h0, _, hv⟩ := h
  rcases hv with ⟨rfl, rfl⟩ | ⟨a, c, rfl, _, _⟩
  · obtain rfl : us = [] := List.eq_nil_of_length_eq_zero (by simpa using h0)
    clear h0 h1
    go_enter Try.func75, Try.ntmps75
    go_wp2
    go_ret
    exact ⟨none, 0, rfl, QRow.nil _ _ _, fun g hg => by simp [Value.ownBlock] at hg, Fr.refl _ _⟩
  · clear h0
    go_enter Try.func75, Try.ntmps75
    go_wp2_with (at_builtin; refine wpList_append_typed _ rfl (.tmp 5) (.tmp 6) 22 rfl 2 i0 (.int .i64 0) 1 8 Try.underlying22 hi hz0 hz1 hz2 rfl (by decide) (.slice (some ⟨w.heap.size, 0, none⟩) 0 0) 0 [] rfl (QRow.none0 _ _) (.slice (some a) n c) n us rfl (H.out.fr ((Fr.refl nob w).alloc _) (fun _ _ _ x => x)) h1 hmax hby ?_)
    intro a' c' w' q' grow hat
    have F : Fr nob w w' := ((Fr.refl nob w).alloc _).grown grow (fun k hk => .inr (by simp [Value.ownBlock] at hk; omega))
    have FIN := Lib.hid (And.intro q' (And.intro grow hat))
    have hf := Lib.hid F
    clear q' grow hat F h1
    go_wp2
    go_ret
    obtain ⟨q', grow, hat⟩ := FIN.out
    have F := hf.out
    refine ⟨a', c', rfl, by simpa using q', fun g hg => ?_, F⟩
    rcases hat g hg with ⟨_, rfl, rfl, _, _⟩ | ⟨hx, cc, hb⟩
    · simp [Value.ownBlock] at hg
      subst hg
      exact ⟨Nat.le_refl _, by simp, _, Blk.new w _ _⟩
    · refine ⟨?_, hb.lt, cc, hb⟩
      rcases hx with hx | hx
      · simp [Value.ownBlock] at hx; omega
      · try simp at hx
        omega
theorem info_ref : (Try.prog.info? 65).map (fun i => (i.zero, i.size, i.bytes)) = some (some (.int .i64 0), 1, 8) := by kernel_rfl
theorem Clone_ref (v : Value) (n : Nat) (us : List Value) (w : World) (h : RdV w v n 1 us) (h1 : ∀ u ∈ us, u.oneCell' = true) (hn : n ≤ 1000000) : Calls Try.prog 76 #[v] w (Cloned 65 1 n us w) := by
  have he := fun (w : World) (a : Option Addr) (n c : Nat) => Lib.run_eql_slice_nil (P := Try.prog) w 108 65 a n c 0 0 Try.underlying108
  obtain ⟨i0, hi, hz0, hz1, hz2⟩ := info_parts info_ref
  have H := Lib.hid h
  have hmax : 0 + n ≤ maxLen := by unfold maxLen; omega
  have hby : (0 + n) * 8 ≤ 140737488355328 := by omega
  obtain ⟨h0, _, hv⟩ := h
  rcases hv with ⟨rfl, rfl⟩ | ⟨a, c, rfl, _, _⟩
  · obtain rfl : us = [] := List.eq_nil_of_length_eq_zero (by simpa using h0)
    clear h0 h1
    go_enter Try.func76, Try.ntmps76
    go_wp2
    go_ret
    exact ⟨none, 0, rfl, QRow.nil _ _ _, fun g hg => by simp [Value.ownBlock] at hg, Fr.refl _ _⟩
  · clear h0
    go_enter Try.func76, Try.ntmps76
    go_wp2_with (at_builtin; refine wpList_append_typed _ rfl (.tmp 5) (.tmp 6) 108 rfl 65 i0 (.int .i64 0) 1 8 Try.underlying108 hi hz0 hz1 hz2 rfl (by decide) (.slice (some ⟨w.heap.size, 0, none⟩) 0 0) 0 [] rfl (QRow.none0 _ _) (.slice (some a) n c) n us rfl (H.out.fr ((Fr.refl nob w).alloc _) (fun _ _ _ x => x)) h1 hmax hby ?_)
    intro a' c' w' q' grow hat
    have F : Fr nob w w' := ((Fr.refl nob w).alloc _).grown grow (fun k hk => .inr (by simp [Value.ownBlock] at hk; omega))
    have FIN := Lib.hid (And.intro q' (And.intro grow hat))
    have hf := Lib.hid F
    clear q' grow hat F h1
    go_wp2
    go_ret
    obtain ⟨q', grow, hat⟩ := FIN.out
    have F := hf.out
    refine ⟨a', c', rfl, by simpa using q', fun g hg => ?_, F⟩
    rcases hat g hg with ⟨_, rfl, rfl, _, _⟩ | ⟨hx, cc, hb⟩
    · simp [Value.ownBlock] at hg
      subst hg
      exact ⟨Nat.le_refl _, by simp, _, Blk.new w _ _⟩
    · refine ⟨?_, hb.lt, cc, hb⟩
      rcases hx with hx | hx
      · simp [Value.ownBlock] at hx; omega
      · try simp at hx
        omega
end Go.Proofs.Ytkbnoceekileiaa
namespace Go.Proofs.Ytkbnoceekileiaa
open Go Go.RowKit
set_option maxRecDepth 100000
set_option linter.unusedVariables false
set_option linter.unusedSimpArgs false
/-- A node: a leaf's pairs, an inner one's keys and ways. -/
structure Nd where
  inner : Bool
  tagged : Bool
  pairs : List (Int × Int)
  keys : List Int
  ways : List Int
deriving Inhabited
/-- A place: its node; what changes: ways, record, mark; how often it was used, whether it is. -/
structure Sl where
  nd : Nd
  ways : List Int
  info : Int
  mark : Bool
  count : Nat
  used : Bool
deriving Inhabited
structure Ar where
  slots : List Sl
  free : List Nat
  most : Int
  used : Int
  faults : Int
def pairC (l : List (Int × Int)) : List Value := l.flatMap fun p => [.int .i64 p.1, .int .i64 p.2]
/-- A place's four slices: pairs, keys, the ways at first, the ways. -/
structure Vs where
  p : Value
  k : Value
  n : Value
  w : Value
def slotC (s : Sl) (v : Vs) : List Value := [.bool s.nd.inner, .bool s.nd.tagged, v.p, v.k, v.n, v.w, .int .i64 s.info, .bool s.mark, .int .u32 s.count, .bool s.used]
theorem slotC_length (s : Sl) (v : Vs) : (slotC s v).length = 10 := rfl
/-- A place's slices. -/
def slotP (s : Sl) (v : Vs) : Piece := manyP [rdP 2 v.p s.nd.pairs.length (pairC s.nd.pairs), rdP 1 v.k s.nd.keys.length (intC s.nd.keys), rdP 1 v.n s.nd.ways.length (intC s.nd.ways), rowP 65 1 v.w s.ways.length (intC s.ways)]
/-- The cells of all places. -/
def slotsC (sl : List (Sl × Vs)) : List Value := sl.flatMap fun x => slotC x.1 x.2
theorem slotsC_length (sl : List (Sl × Vs)) : (slotsC sl).length = sl.length * 10 := by
  induction sl with
  | nil => rfl
  | cons x l ih => simp only [slotsC, List.flatMap_cons, List.length_append, List.length_cons, slotC_length] at ih ⊢; omega
theorem slotsC_get : ∀ (sl : List (Sl × Vs)) (i j : Nat) (x : Sl × Vs), sl[i]? = some x → j < 10 → (slotsC sl)[i * 10 + j]? = (slotC x.1 x.2)[j]?
  | [], i, j, x, h, _ => by simp at h
  | y :: l, 0, j, x, h, hj => by
    simp at h; subst h
    rw [slotsC, List.flatMap_cons, List.getElem?_append_left (by rw [slotC_length]; omega)]
    simp
  | y :: l, i + 1, j, x, h, hj => by
    simp at h
    have := slotsC_get l i j x h hj
    rw [slotsC, List.flatMap_cons, List.getElem?_append_right (by rw [slotC_length]; omega), slotC_length, show (i + 1) * 10 + j - 10 = i * 10 + j from by omega]
    exact this
theorem slotsC_set : ∀ (sl : List (Sl × Vs)) (i j : Nat) (x y : Sl × Vs) (u : Value), sl[i]? = some x → j < 10 → slotC y.1 y.2 = (slotC x.1 x.2).set j u → slotsC (sl.set i y) = (slotsC sl).set (i * 10 + j) u
  | [], i, j, x, y, u, h, _, _ => by simp at h
  | z :: l, 0, j, x, y, u, h, hj, he => by
    simp at h; subst h
    simp only [List.set_cons_zero, slotsC, List.flatMap_cons]
    rw [he, List.set_append_left _ _ (by rw [slotC_length]; omega)]
    simp
  | z :: l, i + 1, j, x, y, u, h, hj, he => by
    simp at h
    have := slotsC_set l i j x y u h hj he
    simp only [List.set_cons_succ, slotsC, List.flatMap_cons] at this ⊢
    rw [this, List.set_append_right _ _ (by rw [slotC_length]; omega), slotC_length, show (i + 1) * 10 + j - 10 = i * 10 + j from by omega]
/-- An arena's pieces. -/
def arL (a : Nat) (vs vf : Value) (sl : List (Sl × Vs)) (ar : Ar) : List Piece :=
  [blkP a 122 #[vs, vf, .int .i64 ar.most, .int .i64 ar.used, .int .i64 ar.faults], rowP 133 10 vs sl.length (slotsC sl), rowP 3 1 vf ar.free.length (ar.free.map fun i => .int .i64 (i : Nat))] ++ sl.map fun x => slotP x.1 x.2
/-- An arena at block a, its blocks among S. -/
def Are (w : World) (a : Nat) (S : Nat → Prop) (ar : Ar) : Prop :=
  ∃ (vs vf : Value) (sl : List (Sl × Vs)), Many w (arL a vs vf sl ar) S ∧ sl.map (·.1) = ar.slots
theorem Are.keep {w w' : World} {a : Nat} {S F : Nat → Prop} {ar : Ar} (h : Are w a S ar) (hf : Fr F w w') (hn : ∀ k, S k → ¬ F k) : Are w' a S ar := by
  obtain ⟨vs, vf, sl, h1, h2⟩ := h
  exact ⟨vs, vf, sl, h1.keep hf hn, h2⟩
def areP (a : Nat) (ar : Ar) : Piece := ⟨fun w S => Are w a S ar, fun h hf hn _ => h.keep hf hn⟩
/-- Which place a reference means. -/
def arAt (ar : Ar) (r : Int) : Option Nat :=
  let p := r % 1099511627776 - 1
  if 0 ≤ p ∧ p < ar.slots.length ∧ (ar.slots.getD p.toNat default).used = true ∧ refOf p (ar.slots.getD p.toNat default).count = r then some p.toNat else none
/-- What is so of all arenas: bounds. -/
structure OkAr (ar : Ar) : Prop where
  most : 0 ≤ ar.most ∧ ar.most ≤ 65536
  used : -1000000 ≤ ar.used ∧ ar.used ≤ 1000000
  few : ar.slots.length ≤ 65536
  cnt : ∀ s ∈ ar.slots, s.count ≤ 1000000
  faults : 0 ≤ ar.faults ∧ ar.faults ≤ 1000000000
  free : ∀ i ∈ ar.free, i < ar.slots.length
  frees : ar.free.length ≤ 1000000
theorem set_id {α : Type} (l : List α) (i : Nat) (x : α) (h : l[i]? = some x) : l.set i x = l := by
  obtain ⟨hi, rfl⟩ := List.getElem?_eq_some_iff.1 h
  exact List.set_getElem_self hi
theorem map_set_id {α β : Type} (f : α → β) (l : List α) (i : Nat) (x y : α) (h : l[i]? = some x) (e : f y = f x) : (l.set i y).map f = l.map f := by
  rw [List.map_set, e, set_id]
  rw [List.getElem?_map, h]; rfl
/-- The arena's own cells. -/
theorem Are.head {w : World} {a : Nat} {S : Nat → Prop} {ar : Ar} (h : Are w a S ar) :
    ∃ (aS af : Option Addr) (cs cf : Nat), Blk w a 122 #[.slice aS ar.slots.length cs, .slice af ar.free.length cf, .int .i64 ar.most, .int .i64 ar.used, .int .i64 ar.faults] ∧ S a ∧
      (∀ n, Are (w.setCell ⟨a, 3, none⟩ (.int .i64 n)) a S { ar with used := n }) ∧ (∀ n, Are (w.setCell ⟨a, 4, none⟩ (.int .i64 n)) a S { ar with faults := n }) := by
  obtain ⟨vs, vf, sl, hM, hs⟩ := h
  have hlen : sl.length = ar.slots.length := by rw [← hs]; simp
  obtain ⟨T1, hr1, _⟩ := hM.get 1 rfl
  obtain ⟨T2, hr2, _⟩ := hM.get 2 rfl
  obtain ⟨aS, cs, rfl, _, _⟩ := hr1.1.form
  obtain ⟨af, cf, rfl, _, _⟩ := hr2.1.form
  obtain ⟨T0, hb0, hT0, U⟩ := hM.take 0 rfl
  refine ⟨aS, af, cs, cf, by rw [← hlen]; exact hb0.1, (hT0 a hb0.2).1, fun n => ?_, fun n => ?_⟩
  · have F := (Fr.refl T0 w).setCell (p := ⟨a, 3, none⟩) (.inl hb0.2) (.int .i64 n)
    exact ⟨_, _, sl, U (S' := S) (T' := T0) (p' := blkP a 122 #[.slice aS sl.length cs, .slice af ar.free.length cf, .int .i64 ar.most, .int .i64 n, .int .i64 ar.faults]) F ⟨hb0.1.set 3 _, hb0.2⟩ (fun _ x => .inl x) (fun _ x => x) (fun k hk => (hT0 k hk).1), hs⟩
  · have F := (Fr.refl T0 w).setCell (p := ⟨a, 4, none⟩) (.inl hb0.2) (.int .i64 n)
    exact ⟨_, _, sl, U (S' := S) (T' := T0) (p' := blkP a 122 #[.slice aS sl.length cs, .slice af ar.free.length cf, .int .i64 ar.most, .int .i64 ar.used, .int .i64 n]) F ⟨hb0.1.set 4 _, hb0.2⟩ (fun _ x => .inl x) (fun _ x => x) (fun k hk => (hT0 k hk).1), hs⟩
theorem arL_slot {a : Nat} {vs vf : Value} {sl : List (Sl × Vs)} {ar : Ar} {p : Nat} {x : Sl × Vs} (h : sl[p]? = some x) : (arL a vs vf sl ar)[3 + p]? = some (slotP x.1 x.2) := by
  unfold arL
  rw [List.getElem?_append_right (by simp)]
  simp [h]
/-- What stands in a place. -/
theorem Are.slot {w : World} {a : Nat} {S : Nat → Prop} {ar : Ar} (h : Are w a S ar) {p : Nat} {s : Sl} (hp : ar.slots[p]? = some s) :
    ∃ (g off cap cf : Nat) (af : Option Addr) (v : Vs), Blk w a 122 #[.slice (some ⟨g, off, none⟩) ar.slots.length cap, .slice af ar.free.length cf, .int .i64 ar.most, .int .i64 ar.used, .int .i64 ar.faults] ∧ S a ∧ S g ∧ a ≠ g ∧ ar.slots.length ≤ cap ∧
      (∀ j u, (slotC s v)[j]? = some u → w.cell? ⟨g, off + p * 10 + j, none⟩ = some u) ∧ (∀ j, w.frozen? ⟨g, j, none⟩ = false) ∧
      (RdV w v.p s.nd.pairs.length 2 (pairC s.nd.pairs) ∧ RdV w v.k s.nd.keys.length 1 (intC s.nd.keys) ∧ RdV w v.n s.nd.ways.length 1 (intC s.nd.ways) ∧ QRow w 65 1 v.w s.ways.length (intC s.ways)) ∧
      (∀ (gw ow cw : Nat), v.w = .slice (some ⟨gw, ow, none⟩) s.ways.length cw → S gw ∧ ∀ (i : Nat) (n : Int), i < s.ways.length → Are (w.setCell ⟨gw, ow + i, none⟩ (.int .i64 n)) a S { ar with slots := ar.slots.set p { s with ways := s.ways.set i n } }) ∧
      ∀ (j : Nat) (u : Value) (s' : Sl), j < 10 → slotC s' v = (slotC s v).set j u → s'.nd = s.nd → s'.ways = s.ways → Are (w.setCell ⟨g, off + p * 10 + j, none⟩ u) a S { ar with slots := ar.slots.set p s' } := by
  obtain ⟨vs, vf, sl, hM, hs⟩ := h
  have hlen : sl.length = ar.slots.length := by rw [← hs]; simp
  have hpl : p < sl.length := by
    have := (List.getElem?_eq_some_iff.1 hp).1
    omega
  obtain ⟨⟨s0, v⟩, hx⟩ : ∃ x, sl[p]? = some x := ⟨_, List.getElem?_eq_getElem hpl⟩
  obtain rfl : s0 = s := by
    rw [← hs, List.getElem?_map, hx] at hp
    simpa using hp
  obtain ⟨T2, hr2, _⟩ := hM.get 2 rfl
  obtain ⟨af, cf, rfl, _, _⟩ := hr2.1.form
  obtain ⟨T0, hb0, hT0⟩ := hM.get 0 rfl
  obtain ⟨T1, hr1, hT1, U⟩ := hM.take 1 rfl
  obtain ⟨aS, cs, rfl, hcap, _⟩ := hr1.1.form
  obtain ⟨g, off, cur, rfl, hbg, _, hat⟩ := hr1.1.at (by omega)
  have hg := (hr1.2 g rfl).1
  have hag : a ≠ g := hb0.1.ne hbg (by decide)
  refine ⟨g, off, cs, cf, af, v, by rw [← hlen]; exact hb0.1, (hT0 a hb0.2).1, (hT1 g hg).1, hag, by omega, fun j u hu => ?_, fun j => hbg.froz j, ?_, fun gw ow cw hv => ?_, fun j u s' hj he hn hw => ?_⟩
  · have hj : j < 10 := by
      have := (List.getElem?_eq_some_iff.1 hu).1
      rwa [slotC_length] at this
    have := hat (p * 10 + j) u (by rw [slotsC_get sl p j _ hx hj]; exact hu)
    rwa [show off + (p * 10 + j) = off + p * 10 + j from by omega] at this
  · obtain ⟨T, hm, _⟩ := hM.get (3 + p) (arL_slot hx)
    have hm : Many w _ T := hm
    obtain ⟨_, r0, _⟩ := hm.get 0 rfl
    obtain ⟨_, r1, _⟩ := hm.get 1 rfl
    obtain ⟨_, r2, _⟩ := hm.get 2 rfl
    obtain ⟨_, r3, _⟩ := hm.get 3 rfl
    exact ⟨r0.1, r1.1, r2.1, r3.1⟩
  · obtain ⟨T, hm, hT, UO⟩ := hM.take (3 + p) (arL_slot hx)
    have hm : Many w _ T := hm
    obtain ⟨T3, r3, hT3, UI⟩ := hm.take 3 rfl
    rw [hv] at r3
    refine ⟨(hT gw (hT3 gw (r3.2 gw rfl).1).1).1, fun i n hi => ?_⟩
    have hQ := r3.1.put i (by omega) (.int .i64 n)
    have hg3 := (r3.2 gw rfl).1
    have F3 := (Fr.refl T3 w).setCell (p := ⟨gw, ow + i, none⟩) (.inl hg3) (.int .i64 n)
    have F := (Fr.refl T w).setCell (p := ⟨gw, ow + i, none⟩) (.inl (hT3 gw hg3).1) (.int .i64 n)
    have hI := UI (S' := T) (T' := T3) (p' := rowP 65 1 (.slice (some ⟨gw, ow, none⟩) s0.ways.length cw) s0.ways.length ((intC s0.ways).set i (.int .i64 n))) F3 ⟨hQ, fun k hk => by
      obtain ⟨x1, c, x2⟩ := r3.2 k hk
      simp [Value.ownBlock] at hk
      subst hk
      exact ⟨x1, _, x2.set _ _⟩⟩ (fun _ x => .inl x) (fun _ x => x) (fun k hk => (hT3 k hk).1)
    have hO := UO (S' := S) (T' := T) (p' := slotP { s0 with ways := s0.ways.set i n } v) F (by
      unfold slotP
      dsimp only
      rw [List.length_set, show intC (s0.ways.set i n) = (intC s0.ways).set i (.int .i64 n) from by unfold intC; rw [List.map_set], hv]
      rw [hv] at hI
      exact hI) (fun _ x => .inl x) (fun _ x => x) (fun k hk => (hT k hk).1)
    refine ⟨.slice (some ⟨g, off, none⟩) sl.length cs, .slice af ar.free.length cf, sl.set p ({ s0 with ways := s0.ways.set i n }, v), ?_, by rw [List.map_set, hs]⟩
    have e1 : slotsC (sl.set p ({ s0 with ways := s0.ways.set i n }, v)) = slotsC sl := by
      have := slotsC_set sl p 0 (s0, v) ({ s0 with ways := s0.ways.set i n }, v) (.bool s0.nd.inner) hx (by omega) rfl
      rw [this, set_id]
      rw [slotsC_get sl p 0 _ hx (by omega)]; rfl
    unfold arL at hO ⊢
    rw [List.length_set, e1, List.map_set]
    rw [List.set_append_right _ _ (by simp)] at hO
    simpa using hO
  · have F := (Fr.refl T1 w).setCell (p := ⟨g, off + p * 10 + j, none⟩) (.inl hg) u
    have hQ := hr1.1.put (p * 10 + j) (by omega) u
    rw [show off + (p * 10 + j) = off + p * 10 + j from by omega] at hQ
    rw [← slotsC_set sl p j (s0, v) (s', v) u hx hj he] at hQ
    have M := U (S' := S) (T' := T1) (p' := rowP 133 10 (.slice (some ⟨g, off, none⟩) sl.length cs) sl.length (slotsC (sl.set p (s', v)))) F ⟨hQ, fun k hk => ?_⟩ (fun _ x => .inl x) (fun _ x => x) (fun k hk => (hT1 k hk).1)
    · refine ⟨.slice (some ⟨g, off, none⟩) sl.length cs, .slice af ar.free.length cf, sl.set p (s', v), ?_, by rw [List.map_set, hs]⟩
      unfold arL at M ⊢
      rw [List.length_set, map_set_id (fun x : Sl × Vs => slotP x.1 x.2) sl p _ (s', v) hx (by simp only [slotP, hn, hw])]
      exact M
    · obtain ⟨x1, c, x2⟩ := hr1.2 k hk
      simp [Value.ownBlock] at hk
      subst hk
      exact ⟨x1, _, x2.set _ u⟩
end Go.Proofs.Ytkbnoceekileiaa
namespace Go.Proofs.Ytkbnoceekileiaa
open Go Go.RowKit
set_option maxRecDepth 100000
set_option linter.unusedVariables false
set_option linter.unusedSimpArgs false
theorem Place_is (r n : Int) (w : World) (h : r % 1099511627776 - 1 = n) : Calls Try.prog 78 #[.int .i64 r] w fun e w' => e = .returned (.int .i64 n) ∧ w' = w := by
  subst h; exact Place_calls r w
theorem at_nil (r : Int) (w : World) : Calls Try.prog 68 #[.pointer none, .int .i64 r] w fun e w' => e = .returned (.pointer none) ∧ w' = w := by
  go_enter Try.func68, Try.ntmps68
  go_wp2
  go_ret
  exact ⟨rfl, rfl⟩
/-- A reference that means no place: a fault. -/
theorem at_none {w : World} {a : Nat} {S : Nat → Prop} {ar : Ar} (h : Are w a S ar) (ok : OkAr ar) (r : Int) (hr : arAt ar r = none) :
    Calls Try.prog 68 #[.pointer (some ⟨a, 0, none⟩), .int .i64 r] w fun e w' => e = .returned (.pointer none) ∧ w' = w.setCell ⟨a, 4, none⟩ (.int .i64 (ar.faults + 1)) := by
  obtain ⟨f0, f1⟩ := ok.faults
  by_cases h0 : 0 ≤ r % 1099511627776 - 1
  · by_cases h1 : r % 1099511627776 - 1 < ar.slots.length
    · obtain ⟨p, hp⟩ : ∃ p : Nat, r % 1099511627776 - 1 = (p : Int) := ⟨(r % 1099511627776 - 1).toNat, by omega⟩
      have hpl : p < ar.slots.length := by omega
      have hs : ar.slots[p]? = some ar.slots[p] := List.getElem?_eq_getElem hpl
      obtain ⟨g, off, cap, cf, af, v, hb, _, _, hag, hcap, hc, hz, _⟩ := h.slot hs
      have hcnt := ok.cnt _ (List.mem_of_getElem? hs)
      have hfew := ok.few
      have hd : ar.slots.getD p default = ar.slots[p] := by simp [List.getD, hs]
      have hne : ¬ (ar.slots[p].used = true ∧ refOf p ar.slots[p].count = r) := by
        intro hx
        have : arAt ar r = some p := by
          unfold arAt
          rw [hp]
          simp only [Int.toNat_natCast, hd]
          rw [if_pos ⟨by omega, by omega, hx.1, hx.2⟩]
        rw [hr] at this
        cases this
      generalize ar.slots[p] = s at *
      have c0 : w.cell? ⟨a, 0, none⟩ = some (.slice (some ⟨g, off, none⟩) ar.slots.length cap) := hb.cell 0
      have c4 : w.cell? ⟨a, 4, none⟩ = some (.int .i64 ar.faults) := hb.cell 4
      have z4 := hb.froz 4
      have c9 : w.cell? ⟨g, off + p * 10 + 9, none⟩ = some (.bool s.used) := hc 9 _ rfl
      have c8 : w.cell? ⟨g, off + p * 10 + 8, none⟩ = some (.int .u32 s.count) := hc 8 _ rfl
      have HP := Lib.hid (Place_is r p w hp)
      have HO := Lib.hid (Of_calls p s.count w (by omega) (by omega))
      clear hp hs hd hcnt hr hb hc hz h ok h0 h1
      cases hu : s.used with
      | false =>
        rw [hu] at c9
        clear hne hu HO
        go_enter Try.func68, Try.ntmps68
        go_wp2_with (go_at_call 78; refine HP.out.mono ?_; rintro e w' ⟨rfl, hw⟩; have hw := hw.symm; subst hw)
        go_ret
        exact ⟨rfl, rfl⟩
      | true =>
        rw [hu] at c9
        have hq : (refOf p s.count == r) = false := by simp only [beq_eq_false_iff_ne]; intro hx; exact hne ⟨hu, hx⟩
        clear hne hu
        generalize refOf p s.count = q at *
        go_enter Try.func68, Try.ntmps68
        go_wp2_with (first | (go_at_call 78; refine HP.out.mono ?_; rintro e w' ⟨rfl, hw⟩; have hw := hw.symm; subst hw) | (go_at_call 77; refine HO.out.mono ?_; rintro e w' ⟨rfl, hw⟩; have hw := hw.symm; subst hw))
        go_ret
        exact ⟨rfl, rfl⟩
    · obtain ⟨aS, af, cs, cf, hb, _⟩ := h.head
      have c0 : w.cell? ⟨a, 0, none⟩ = some (.slice aS ar.slots.length cs) := hb.cell 0
      have c4 : w.cell? ⟨a, 4, none⟩ = some (.int .i64 ar.faults) := hb.cell 4
      have z4 := hb.froz 4
      have HP := Lib.hid (Place_calls r w)
      generalize r % 1099511627776 - 1 = q at *
      have h2 : (ar.slots.length : Int) ≤ q := by omega
      clear hb h ok hr h1
      go_enter Try.func68, Try.ntmps68
      go_wp2_with (go_at_call 78; refine HP.out.mono ?_; rintro e w' ⟨rfl, hw⟩; have hw := hw.symm; subst hw)
      go_ret
      exact ⟨rfl, rfl⟩
  · obtain ⟨aS, af, cs, cf, hb, _⟩ := h.head
    have c4 : w.cell? ⟨a, 4, none⟩ = some (.int .i64 ar.faults) := hb.cell 4
    have z4 := hb.froz 4
    have HP := Lib.hid (Place_calls r w)
    generalize r % 1099511627776 - 1 = q at *
    clear hb h ok hr
    go_enter Try.func68, Try.ntmps68
    go_wp2_with (go_at_call 78; refine HP.out.mono ?_; rintro e w' ⟨rfl, hw⟩; have hw := hw.symm; subst hw)
    go_ret
    exact ⟨rfl, rfl⟩
theorem arAt_some {ar : Ar} {r : Int} {p : Nat} (h : arAt ar r = some p) : ∃ s, ar.slots[p]? = some s ∧ s.used = true ∧ refOf p s.count = r ∧ r % 1099511627776 - 1 = p := by
  unfold arAt at h
  dsimp only at h
  split at h
  · rename_i hc
    obtain ⟨h1, h2, h3, h4⟩ := hc
    simp only [Option.some.injEq] at h
    have hp : r % 1099511627776 - 1 = (p : Int) := by omega
    have hpl : p < ar.slots.length := by omega
    rw [h] at h3 h4
    rw [hp] at h4
    have hd : ar.slots.getD p default = ar.slots[p] := by simp [List.getD, List.getElem?_eq_getElem hpl]
    rw [hd] at h3 h4
    exact ⟨_, List.getElem?_eq_getElem hpl, h3, h4, hp⟩
  · cases h
/-- A reference's place. -/
theorem at_some {w : World} {a : Nat} {S : Nat → Prop} {ar : Ar} (h : Are w a S ar) (ok : OkAr ar) (r : Int) {p : Nat} (hr : arAt ar r = some p) {g off cap : Nat} {x1 x2 x3 x4 : Value} (hb : Blk w a 122 #[.slice (some ⟨g, off, none⟩) ar.slots.length cap, x1, x2, x3, x4])
    {s : Sl} {v : Vs} (hs : ar.slots[p]? = some s) (hcap : ar.slots.length ≤ cap) (hc : ∀ j u, (slotC s v)[j]? = some u → w.cell? ⟨g, off + p * 10 + j, none⟩ = some u) :
    Calls Try.prog 68 #[.pointer (some ⟨a, 0, none⟩), .int .i64 r] w fun e w' => e = .returned (.pointer (some ⟨g, off + p * 10, none⟩)) ∧ w' = w := by
  obtain ⟨s', hs', hu, hq, hp⟩ := arAt_some hr
  obtain rfl : s' = s := by rw [hs] at hs'; simpa using hs'.symm
  have hpl : p < ar.slots.length := (List.getElem?_eq_some_iff.1 hs).1
  have hcnt := ok.cnt _ (List.mem_of_getElem? hs)
  have hfew := ok.few
  have c0 : w.cell? ⟨a, 0, none⟩ = some (.slice (some ⟨g, off, none⟩) ar.slots.length cap) := hb.cell 0
  have c9 : w.cell? ⟨g, off + p * 10 + 9, none⟩ = some (.bool s'.used) := hc 9 _ rfl
  rw [hu] at c9
  have c8 : w.cell? ⟨g, off + p * 10 + 8, none⟩ = some (.int .u32 s'.count) := hc 8 _ rfl
  have HP := Lib.hid (Place_is r p w hp)
  have HO := Lib.hid (Of_calls p s'.count w (by omega) (by omega))
  rw [hq] at HO
  clear hp hs hs' hcnt hr hb hc h ok hu hq
  go_enter Try.func68, Try.ntmps68
  go_wp2_with (first | (go_at_call 78; refine HP.out.mono ?_; rintro e w' ⟨rfl, hw⟩; have hw := hw.symm; subst hw) | (go_at_call 77; refine HO.out.mono ?_; rintro e w' ⟨rfl, hw⟩; have hw := hw.symm; subst hw))
  go_ret
  exact ⟨rfl, rfl⟩
theorem Used_nil (w : World) : Calls Try.prog 33 #[.pointer none] w fun e w' => e = .returned (.int .i64 0) ∧ w' = w := by
  go_enter Try.func33, Try.ntmps33
  go_wp2
  go_ret
  exact ⟨rfl, rfl⟩
theorem Faults_nil (w : World) : Calls Try.prog 39 #[.pointer none] w fun e w' => e = .returned (.int .i64 0) ∧ w' = w := by
  go_enter Try.func39, Try.ntmps39
  go_wp2
  go_ret
  exact ⟨rfl, rfl⟩
theorem Most_nil (w : World) : Calls Try.prog 56 #[.pointer none] w fun e w' => e = .returned (.int .i64 0) ∧ w' = w := by
  go_enter Try.func56, Try.ntmps56
  go_wp2
  go_ret
  exact ⟨rfl, rfl⟩
theorem Used_calls {w : World} {a : Nat} {S : Nat → Prop} {ar : Ar} (h : Are w a S ar) : Calls Try.prog 33 #[.pointer (some ⟨a, 0, none⟩)] w fun e w' => e = .returned (.int .i64 ar.used) ∧ w' = w := by
  obtain ⟨aS, af, cs, cf, hb, _⟩ := h.head
  have c : w.cell? ⟨a, 3, none⟩ = some (.int .i64 ar.used) := hb.cell 3
  clear hb h
  go_enter Try.func33, Try.ntmps33
  go_wp2
  go_ret
  exact ⟨rfl, rfl⟩
theorem Faults_calls {w : World} {a : Nat} {S : Nat → Prop} {ar : Ar} (h : Are w a S ar) : Calls Try.prog 39 #[.pointer (some ⟨a, 0, none⟩)] w fun e w' => e = .returned (.int .i64 ar.faults) ∧ w' = w := by
  obtain ⟨aS, af, cs, cf, hb, _⟩ := h.head
  have c : w.cell? ⟨a, 4, none⟩ = some (.int .i64 ar.faults) := hb.cell 4
  clear hb h
  go_enter Try.func39, Try.ntmps39
  go_wp2
  go_ret
  exact ⟨rfl, rfl⟩
theorem Most_calls {w : World} {a : Nat} {S : Nat → Prop} {ar : Ar} (h : Are w a S ar) : Calls Try.prog 56 #[.pointer (some ⟨a, 0, none⟩)] w fun e w' => e = .returned (.int .i64 ar.most) ∧ w' = w := by
  obtain ⟨aS, af, cs, cf, hb, _⟩ := h.head
  have c : w.cell? ⟨a, 2, none⟩ = some (.int .i64 ar.most) := hb.cell 2
  clear hb h
  go_enter Try.func56, Try.ntmps56
  go_wp2
  go_ret
  exact ⟨rfl, rfl⟩
end Go.Proofs.Ytkbnoceekileiaa
namespace Go.Proofs.Ytkbnoceekileiaa
open Go Go.RowKit
set_option maxRecDepth 100000
set_option linter.unusedVariables false
set_option linter.unusedSimpArgs false
/-- A place in an arena. -/
def Ar.at (ar : Ar) (p : Nat) : Sl := ar.slots.getD p default
def Ar.put (ar : Ar) (p : Nat) (s : Sl) : Ar := { ar with slots := ar.slots.set p s }
def Ar.fault (ar : Ar) : Ar := { ar with faults := ar.faults + 1 }
def infoAr (r : Int) (ar : Ar) : Int × Ar := match arAt ar r with | some p => ((ar.at p).info, ar) | none => (0, ar.fault)
def swapInfoAr (r old now : Int) (ar : Ar) : Bool × Ar := match arAt ar r with | some p => if (ar.at p).info = old then (true, ar.put p { ar.at p with info := now }) else (false, ar) | none => (false, ar.fault)
def markAr (r : Int) (ar : Ar) : Bool × Ar := match arAt ar r with | some p => ((ar.at p).mark, ar) | none => (false, ar.fault)
def setMarkAr (r : Int) (ar : Ar) : Ar := match arAt ar r with | some p => ar.put p { ar.at p with mark := true } | none => ar.fault
def wayAr (r i : Int) (ar : Ar) : Int × Ar := match arAt ar r with | some p => (if 0 ≤ i ∧ i < (ar.at p).ways.length then (ar.at p).ways.getD i.toNat 0 else 0, ar) | none => (0, ar.fault)
def swapWayAr (r i old now : Int) (ar : Ar) : Bool × Ar := match arAt ar r with
  | some p => if 0 ≤ i ∧ i < (ar.at p).ways.length ∧ (ar.at p).ways.getD i.toNat 0 = old then (true, ar.put p { ar.at p with ways := (ar.at p).ways.set i.toNat now }) else (false, ar)
  | none => (false, ar.fault)
theorem at_get {ar : Ar} {r : Int} {p : Nat} (h : arAt ar r = some p) : ar.slots[p]? = some (ar.at p) := by
  obtain ⟨s, hs, _⟩ := arAt_some h
  rw [hs]; simp [Ar.at, List.getD, hs]
section
variable {w0 w : World} {l : List Piece} {a : Nat} {ar : Ar}
theorem areP_set {i : Nat} (hi : l[i]? = some (areP a ar)) : l.set i (areP a ar) = l := set_id l i _ hi
/-- A fault, as the heap has it. -/
theorem fault_h (h : Heap w0 w l) (i : Nat) (hi : l[i]? = some (areP a ar)) : Heap w0 (w.setCell ⟨a, 4, none⟩ (.int .i64 (ar.faults + 1))) (l.set i (areP a ar.fault)) := by
  obtain ⟨S, hS, _, U⟩ := h.take i hi
  obtain ⟨_, _, _, _, hb, hSa, _, h2⟩ := Are.head hS
  exact U (p' := areP a ar.fault) ((Fr.refl S w).setCell (p := ⟨a, 4, none⟩) (.inl hSa) _) (h2 _) (fun _ x => .inl x)
/-- A place, as the heap has it. -/
theorem slot_h (h : Heap w0 w l) (i : Nat) (hi : l[i]? = some (areP a ar)) {p : Nat} {s : Sl} (hp : ar.slots[p]? = some s) :
    ∃ (g off cap cf : Nat) (af : Option Addr) (v : Vs), Blk w a 122 #[.slice (some ⟨g, off, none⟩) ar.slots.length cap, .slice af ar.free.length cf, .int .i64 ar.most, .int .i64 ar.used, .int .i64 ar.faults] ∧ ar.slots.length ≤ cap ∧
      (∀ j u, (slotC s v)[j]? = some u → w.cell? ⟨g, off + p * 10 + j, none⟩ = some u) ∧ (∀ j, w.frozen? ⟨g, j, none⟩ = false) ∧
      (RdV w v.p s.nd.pairs.length 2 (pairC s.nd.pairs) ∧ RdV w v.k s.nd.keys.length 1 (intC s.nd.keys) ∧ RdV w v.n s.nd.ways.length 1 (intC s.nd.ways) ∧ QRow w 65 1 v.w s.ways.length (intC s.ways)) ∧
      (∀ (gw ow cw : Nat), v.w = .slice (some ⟨gw, ow, none⟩) s.ways.length cw → ∀ (j : Nat) (n : Int), j < s.ways.length → Heap w0 (w.setCell ⟨gw, ow + j, none⟩ (.int .i64 n)) (l.set i (areP a (ar.put p { s with ways := s.ways.set j n })))) ∧
      ∀ (j : Nat) (u : Value) (s' : Sl), j < 10 → slotC s' v = (slotC s v).set j u → s'.nd = s.nd → s'.ways = s.ways → Heap w0 (w.setCell ⟨g, off + p * 10 + j, none⟩ u) (l.set i (areP a (ar.put p s'))) := by
  obtain ⟨S, hS, _, U⟩ := h.take i hi
  obtain ⟨g, off, cap, cf, af, v, hb, hSa, hSg, hag, hcap, hc, hz, hr, hw, hu⟩ := Are.slot hS hp
  refine ⟨g, off, cap, cf, af, v, hb, hcap, hc, hz, hr, fun gw ow cw hv j n hj => ?_, fun j u s' hj he hn hw' => ?_⟩
  · obtain ⟨hg, E⟩ := hw gw ow cw hv
    exact U (p' := areP a (ar.put p { s with ways := s.ways.set j n })) ((Fr.refl S w).setCell (p := ⟨gw, ow + j, none⟩) (.inl hg) _) (E j n hj) (fun _ x => .inl x)
  · exact U (p' := areP a (ar.put p s')) ((Fr.refl S w).setCell (p := ⟨g, off + p * 10 + j, none⟩) (.inl hSg) _) (hu j u s' hj he hn hw') (fun _ x => .inl x)
theorem at_none_h (h : Heap w0 w l) (i : Nat) (hi : l[i]? = some (areP a ar)) (ok : OkAr ar) (r : Int) (hr : arAt ar r = none) :
    Calls Try.prog 68 #[.pointer (some ⟨a, 0, none⟩), .int .i64 r] w fun e w' => e = .returned (.pointer none) ∧ Heap w0 w' (l.set i (areP a ar.fault)) := by
  obtain ⟨S, hS, _⟩ := h.get i hi
  refine (at_none hS ok r hr).mono ?_
  rintro e w' ⟨rfl, rfl⟩
  exact ⟨rfl, fault_h h i hi⟩
theorem at_some_h (h : Heap w0 w l) (i : Nat) (hi : l[i]? = some (areP a ar)) (ok : OkAr ar) (r : Int) {p : Nat} (hr : arAt ar r = some p) {g off cap : Nat} {x1 x2 x3 x4 : Value} (hb : Blk w a 122 #[.slice (some ⟨g, off, none⟩) ar.slots.length cap, x1, x2, x3, x4])
    {v : Vs} (hcap : ar.slots.length ≤ cap) (hc : ∀ j u, (slotC (ar.at p) v)[j]? = some u → w.cell? ⟨g, off + p * 10 + j, none⟩ = some u) :
    Calls Try.prog 68 #[.pointer (some ⟨a, 0, none⟩), .int .i64 r] w fun e w' => e = .returned (.pointer (some ⟨g, off + p * 10, none⟩)) ∧ w' = w := by
  obtain ⟨S, hS, _⟩ := h.get i hi
  exact at_some hS ok r hr hb (at_get hr) hcap hc
theorem Way_h (h : Heap w0 w l) (i : Nat) (hi : l[i]? = some (areP a ar)) (ok : OkAr ar) (r j : Int) :
    Calls Try.prog 43 #[.pointer (some ⟨a, 0, none⟩), .int .i64 r, .int .i64 j] w fun e w' => e = .returned (.int .i64 (wayAr r j ar).1) ∧ Heap w0 w' (l.set i (areP a (wayAr r j ar).2)) := by
  unfold wayAr
  cases hr : arAt ar r with
  | none =>
    have C := Lib.hid (at_none_h h i hi ok r hr)
    clear hr h hi ok
    go_enter Try.func43, Try.ntmps43
    go_wp2_with fail
    refine C.out.mono ?_
    rintro e w' ⟨rfl, H'⟩
    go_wp2_with fail
    go_ret
    exact ⟨rfl, H'⟩
  | some p =>
    dsimp only
    obtain ⟨g, off, cap, cf, af, v, hb, hcap, hc, hz, ⟨_, _, _, hq⟩, _, _⟩ := slot_h h i hi (at_get hr)
    have C := Lib.hid (at_some_h h i hi ok r hr hb hcap hc)
    have c : w.cell? ⟨g, off + p * 10 + 5, none⟩ = some v.w := hc 5 _ rfl
    have HH := Lib.hid h
    rw [areP_set hi]
    obtain ⟨aw, cw, hv, hcw, _⟩ := hq.form
    rw [hv] at c hq
    generalize (ar.at p).ways = ws at *
    clear hr h hi ok hb hcap hc hz
    by_cases h0 : 0 ≤ j
    · by_cases h1 : j < ws.length
      · obtain ⟨gw, ow, cur, rfl, _, _, hat⟩ := hq.at (by omega)
        have c2 : w.cell? ⟨gw, ow + j.toNat, none⟩ = some (.int .i64 (ws.getD j.toNat 0)) := hat _ _ (by simp [intC, List.getD, List.getElem?_eq_getElem (show j.toNat < ws.length by omega)])
        rw [if_pos ⟨h0, h1⟩]
        clear hat hq
        generalize ws.getD j.toNat 0 = x at *
        go_enter Try.func43, Try.ntmps43
        go_wp2_with fail
        refine C.out.mono ?_
        rintro e w' ⟨rfl, hw⟩
        have hw := hw.symm
        subst hw
        go_wp2_with fail
        go_ret
        exact ⟨rfl, HH.out⟩
      · rw [if_neg (fun x => h1 x.2)]
        have h2 : (ws.length : Int) ≤ j := by omega
        clear hq h1
        go_enter Try.func43, Try.ntmps43
        go_wp2_with fail
        refine C.out.mono ?_
        rintro e w' ⟨rfl, hw⟩
        have hw := hw.symm
        subst hw
        go_wp2_with fail
        go_ret
        exact ⟨rfl, HH.out⟩
    · rw [if_neg (fun x => h0 x.1)]
      have h2 : j < 0 := by omega
      clear hq h0
      go_enter Try.func43, Try.ntmps43
      go_wp2_with fail
      refine C.out.mono ?_
      rintro e w' ⟨rfl, hw⟩
      have hw := hw.symm
      subst hw
      go_wp2_with fail
      go_ret
      exact ⟨rfl, HH.out⟩
theorem SwapWay_h (h : Heap w0 w l) (i : Nat) (hi : l[i]? = some (areP a ar)) (ok : OkAr ar) (r j old now : Int) :
    Calls Try.prog 59 #[.pointer (some ⟨a, 0, none⟩), .int .i64 r, .int .i64 j, .int .i64 old, .int .i64 now] w fun e w' => e = .returned (.bool (swapWayAr r j old now ar).1) ∧ Heap w0 w' (l.set i (areP a (swapWayAr r j old now ar).2)) := by
  unfold swapWayAr
  cases hr : arAt ar r with
  | none =>
    have C := Lib.hid (at_none_h h i hi ok r hr)
    clear hr h hi ok
    go_enter Try.func59, Try.ntmps59
    go_wp2_with fail
    refine C.out.mono ?_
    rintro e w' ⟨rfl, H'⟩
    go_wp2_with fail
    go_ret
    exact ⟨rfl, H'⟩
  | some p =>
    dsimp only
    obtain ⟨g, off, cap, cf, af, v, hb, hcap, hc, hz, ⟨_, _, _, hq⟩, hw, _⟩ := slot_h h i hi (at_get hr)
    have C := Lib.hid (at_some_h h i hi ok r hr hb hcap hc)
    have c : w.cell? ⟨g, off + p * 10 + 5, none⟩ = some v.w := hc 5 _ rfl
    have HH := h
    have hs := areP_set hi
    rw [← hs] at HH
    replace HH := Lib.hid HH
    obtain ⟨aw, cw, hv, hcw, _⟩ := hq.form
    rw [hv] at c hq
    generalize hws : (ar.at p).ways = ws at *
    clear hr h hi ok hb hcap hc hz hs
    by_cases h0 : 0 ≤ j
    · by_cases h1 : j < ws.length
      · obtain ⟨gw, ow, cur, rfl, hbw, _, hat⟩ := hq.at (by omega)
        have c2 : w.cell? ⟨gw, ow + j.toNat, none⟩ = some (.int .i64 (ws.getD j.toNat 0)) := hat _ _ (by simp [intC, List.getD, List.getElem?_eq_getElem (show j.toNat < ws.length by omega)])
        have z2 := hbw.froz (ow + j.toNat)
        have E := Lib.hid (hw gw ow cw hv j.toNat now (by omega))
        clear hat hq hw hv hws hbw
        by_cases h2 : ws.getD j.toNat 0 = old
        · rw [if_pos ⟨h0, h1, h2⟩]
          have hd : (ws.getD j.toNat 0 != old) = false := by simp only [bne_eq_false_iff_eq]; exact h2
          clear h2
          generalize ws.getD j.toNat 0 = x at *
          go_enter Try.func59, Try.ntmps59
          go_wp2_with fail
          refine C.out.mono ?_
          rintro e w' ⟨rfl, hw⟩
          have hw := hw.symm
          subst hw
          go_wp2_with fail
          go_ret
          exact ⟨rfl, E.out⟩
        · rw [if_neg (fun x => h2 x.2.2)]
          have hd : (ws.getD j.toNat 0 != old) = true := by simp only [bne_iff_ne]; exact h2
          clear h2
          generalize ws.getD j.toNat 0 = x at *
          go_enter Try.func59, Try.ntmps59
          go_wp2_with fail
          refine C.out.mono ?_
          rintro e w' ⟨rfl, hw⟩
          have hw := hw.symm
          subst hw
          go_wp2_with fail
          go_ret
          exact ⟨rfl, HH.out⟩
      · rw [if_neg (fun x => h1 x.2.1)]
        have h2 : (ws.length : Int) ≤ j := by omega
        clear hq h1 hw hv hws
        go_enter Try.func59, Try.ntmps59
        go_wp2_with fail
        refine C.out.mono ?_
        rintro e w' ⟨rfl, hw⟩
        have hw := hw.symm
        subst hw
        go_wp2_with fail
        go_ret
        exact ⟨rfl, HH.out⟩
    · rw [if_neg (fun x => h0 x.1)]
      have h2 : j < 0 := by omega
      clear hq h0 hw hv hws
      go_enter Try.func59, Try.ntmps59
      go_wp2_with fail
      refine C.out.mono ?_
      rintro e w' ⟨rfl, hw⟩
      have hw := hw.symm
      subst hw
      go_wp2_with fail
      go_ret
      exact ⟨rfl, HH.out⟩
end
end Go.Proofs.Ytkbnoceekileiaa
namespace Go.Proofs.Ytkbnoceekileiaa
open Go Go.RowKit
set_option maxRecDepth 100000
set_option linter.unusedVariables false
set_option linter.unusedSimpArgs false
def nilS : Value := .slice none 0 0
def noNd : Nd := ⟨false, false, [], [], []⟩
def noSl : Sl := ⟨noNd, [], 0, false, 0, false⟩
def noVs : Vs := ⟨nilS, nilS, nilS, nilS⟩
def intsC (l : List Nat) : List Value := l.map fun i => .int .i64 (i : Nat)
theorem rdP_nil (w : World) (sz : Nat) : (rdP sz nilS 0 []).holds w (fun _ => False) := ⟨⟨by simp, by simp, .inl ⟨rfl, rfl⟩⟩, fun g hg => by simp [nilS, Value.ownBlock] at hg⟩
theorem rowP_nil (w : World) (t : TypeId) (sz : Nat) : (rowP t sz nilS 0 []).holds w (fun _ => False) := ⟨QRow.nil _ _ _, fun g hg => by simp [nilS, Value.ownBlock] at hg⟩
theorem slotP_nil (w : World) : (slotP noSl noVs).holds w (fun _ => False) := by
  have h0 := Many.nil w (fun _ => False)
  have h1 := h0.push (Fr.refl _ _) (rdP_nil w 2) (fun _ x => x.elim) (fun _ x => x) (fun _ x => x)
  have h2 := h1.push (Fr.refl _ _) (rdP_nil w 1) (fun _ x => x.elim) (fun _ x => x) (fun _ x => x)
  have h3 := h2.push (Fr.refl _ _) (rdP_nil w 1) (fun _ x => x.elim) (fun _ x => x) (fun _ x => x)
  exact h3.push (Fr.refl _ _) (rowP_nil w 65 1) (fun _ x => x.elim) (fun _ x => x) (fun _ x => x)
/-- How many places there may be. -/
def limAr (n : Int) : Int := min (max n 0) 65536
def newAr (n : Int) : Ar := ⟨[], [], limAr n, 0, 0⟩
theorem New_h {w0 w : World} {l : List Piece} (h : Heap w0 w l) (n : Int) : Calls Try.prog 50 #[.int .i64 n] w fun e w' => e = .returned (.pointer (some ⟨w.heap.size, 0, none⟩)) ∧ Heap w0 w' (l ++ [areP w.heap.size (newAr n)]) := by
  have key : ∀ m, m = limAr n → Heap w0 (w.alloc (.cells #[nilS, nilS, .int .i64 m, .int .i64 0, .int .i64 0] 122)) (l ++ [areP w.heap.size (newAr n)]) := fun m hm => by
    subst hm
    refine h.push (S := fun k => k = w.heap.size) (Fr.alloc (Fr.refl _ _) _) ?_ (fun k hk => by subst hk; simp)
    generalize hw' : w.alloc (.cells #[nilS, nilS, .int .i64 (limAr n), .int .i64 0, .int .i64 0] 122) = w'
    have hb : Blk w' w.heap.size 122 #[nilS, nilS, .int .i64 (limAr n), .int .i64 0, .int .i64 0] := by rw [← hw']; exact Blk.new _ _ _
    have h0 := (Many.nil w (fun k => k = w.heap.size)).push (S' := fun k => k = w.heap.size) (w' := w') (p := blkP w.heap.size 122 #[nilS, nilS, .int .i64 (limAr n), .int .i64 0, .int .i64 0]) (T := fun k => k = w.heap.size) (by rw [← hw']; exact Fr.alloc (Fr.refl _ _) _) ⟨hb, rfl⟩ (fun k hk => by subst hk; exact ⟨Nat.le_refl _, hb.lt⟩) (fun _ x => x) (fun _ x => x)
    have h1 := h0.push (S' := fun k => k = w.heap.size) (Fr.refl _ _) (rowP_nil w' 133 10) (fun _ x => x.elim) (fun _ x => x) (fun _ x => x.elim)
    have h2 := h1.push (S' := fun k => k = w.heap.size) (Fr.refl _ _) (rowP_nil w' 3 1) (fun _ x => x.elim) (fun _ x => x) (fun _ x => x.elim)
    exact ⟨nilS, nilS, [], h2, rfl⟩
  have KEY := Lib.hid key
  clear key
  go_enter Try.func50, Try.ntmps50
  go_wp2
  all_goals
    go_ret
    refine ⟨rfl, ?_⟩
    first | exact KEY.out _ (by unfold limAr; omega)
section
variable {w0 w : World} {l : List Piece} {a : Nat} {ar : Ar}
/-- The row of what is free, as the heap has it. -/
theorem free_h (h : Heap w0 w l) (i : Nat) (hi : l[i]? = some (areP a ar)) :
    ∃ (aS af : Option Addr) (cs cf : Nat), Blk w a 122 #[.slice aS ar.slots.length cs, .slice af ar.free.length cf, .int .i64 ar.most, .int .i64 ar.used, .int .i64 ar.faults] ∧ QRow w 3 1 (.slice af ar.free.length cf) ar.free.length (intsC ar.free) ∧
      (∀ g, (Value.slice af ar.free.length cf).ownBlock = some g → g ≠ a ∧ ∃ c, Blk w g 3 c) ∧
      ∀ (w1 : World) (vf' : Value) (fr' : List Nat), Fr (fun k => (Value.slice af ar.free.length cf).ownBlock = some k) w w1 → QRow w1 3 1 vf' fr'.length (intsC fr') → (∀ g, vf'.ownBlock = some g → ((Value.slice af ar.free.length cf).ownBlock = some g ∨ w.heap.size ≤ g) ∧ ∃ c, Blk w1 g 3 c) →
        Heap w0 (w1.setCell ⟨a, 1, none⟩ vf') (l.set i (areP a { ar with free := fr' })) := by
  obtain ⟨S, hS, _, U⟩ := h.take i hi
  obtain ⟨vs, vf, sl, hM, hs⟩ := hS
  have hlen : sl.length = ar.slots.length := by rw [← hs]; simp
  obtain ⟨T1, hr1, _⟩ := hM.get 1 rfl
  obtain ⟨aS, cs, rfl, _, _⟩ := hr1.1.form
  obtain ⟨T0, hb0, hT0⟩ := hM.get 0 rfl
  obtain ⟨T2, hr2, hT2, U2⟩ := hM.take 2 rfl
  obtain ⟨af, cf, rfl, _, _⟩ := hr2.1.form
  refine ⟨aS, af, cs, cf, by rw [← hlen]; exact hb0.1, hr2.1, fun g hg => ?_, fun w1 vf' fr' F1 Q1 B1 => ?_⟩
  · obtain ⟨_, c, hc⟩ := hr2.2 g hg
    exact ⟨hc.ne hb0.1 (by decide), c, hc⟩
  · have F1' : Fr T2 w w1 := F1.mono (fun k _ hk => (hr2.2 k hk).1)
    have M1 := U2 (S' := wide S w w1) (T' := fun k => vf'.ownBlock = some k) (p' := rowP 3 1 vf' fr'.length (intsC fr')) F1' ⟨Q1, fun g hg => ⟨hg, (B1 g hg).2⟩⟩ (fun k hk => by
      obtain ⟨hx, c, hc⟩ := B1 k hk
      rcases hx with hx | hx
      · exact .inl (hr2.2 k hx).1
      · exact .inr ⟨hx, hc.lt⟩) (fun _ x => .inl x) (fun k hk => by
      obtain ⟨hx, c, hc⟩ := B1 k hk
      rcases hx with hx | hx
      · exact .inl (hT2 k (hr2.2 k hx).1).1
      · exact .inr ⟨hx, hc.lt⟩)
    have M1' : Many w1 (blkP a 122 #[.slice aS sl.length cs, .slice af ar.free.length cf, .int .i64 ar.most, .int .i64 ar.used, .int .i64 ar.faults] :: (arL a (.slice aS sl.length cs) vf' sl { ar with free := fr' }).tail) (wide S w w1) := by
      unfold arL at M1 ⊢
      simpa [intsC] using M1
    obtain ⟨T0', hb0', hT0', U0⟩ := M1'.take 0 rfl
    have F2 := (Fr.refl T0' w1).setCell (p := ⟨a, 1, none⟩) (.inl hb0'.2) vf'
    have Fa := (Fr.refl (fun k => k = a) w1).setCell (p := ⟨a, 1, none⟩) (.inl rfl) vf'
    have M2 := U0 (S' := wide S w w1) (T' := T0') (p' := blkP a 122 #[.slice aS sl.length cs, vf', .int .i64 ar.most, .int .i64 ar.used, .int .i64 ar.faults]) F2 ⟨hb0'.1.set 1 _, hb0'.2⟩ (fun _ x => .inl x) (fun _ x => x) (fun k hk => (hT0' k hk).1)
    have hz : (w1.setCell ⟨a, 1, none⟩ vf').heap.size = w1.heap.size := by simp [World.setCell]
    refine U (p' := areP a { ar with free := fr' }) (S' := wide S w w1) ((F1'.mono (fun k _ hk => (hT2 k hk).1)).trans Fa (fun k _ hk => by rw [hk]; exact (hT0 a hb0.2).1)) ⟨_, _, sl, M2, hs⟩ (fun k hk => ?_)
    rcases hk with hk | hk
    · exact .inl hk
    · exact .inr (by rw [hz]; exact hk)
/-- The row of places: a new place behind the others. -/
theorem grow_h (h : Heap w0 w l) (i : Nat) (hi : l[i]? = some (areP a ar)) :
    ∃ (aS af : Option Addr) (cs cf : Nat) (us : List Value), Blk w a 122 #[.slice aS ar.slots.length cs, .slice af ar.free.length cf, .int .i64 ar.most, .int .i64 ar.used, .int .i64 ar.faults] ∧ QRow w 133 10 (.slice aS ar.slots.length cs) ar.slots.length us ∧
      (∀ g, (Value.slice aS ar.slots.length cs).ownBlock = some g → g ≠ a ∧ ∃ c, Blk w g 133 c) ∧
      ∀ (w1 : World) (vs' : Value), Fr (fun k => (Value.slice aS ar.slots.length cs).ownBlock = some k) w w1 → QRow w1 133 10 vs' (ar.slots.length + 1) (us ++ slotC noSl noVs) → (∀ g, vs'.ownBlock = some g → ((Value.slice aS ar.slots.length cs).ownBlock = some g ∨ w.heap.size ≤ g) ∧ ∃ c, Blk w1 g 133 c) →
        Heap w0 (w1.setCell ⟨a, 0, none⟩ vs') (l.set i (areP a { ar with slots := ar.slots ++ [noSl] })) := by
  obtain ⟨S, hS, _, U⟩ := h.take i hi
  obtain ⟨vs, vf, sl, hM, hs⟩ := hS
  have hlen : sl.length = ar.slots.length := by rw [← hs]; simp
  obtain ⟨T2, hr2, _⟩ := hM.get 2 rfl
  obtain ⟨af, cf, rfl, _, _⟩ := hr2.1.form
  obtain ⟨T0, hb0, hT0⟩ := hM.get 0 rfl
  obtain ⟨T1, hr1, hT1, U1⟩ := hM.take 1 rfl
  obtain ⟨aS, cs, rfl, _, _⟩ := hr1.1.form
  rw [← hlen]
  refine ⟨aS, af, cs, cf, slotsC sl, hb0.1, hr1.1, fun g hg => ?_, fun w1 vs' F1 Q1 B1 => ?_⟩
  · obtain ⟨_, c, hc⟩ := hr1.2 g hg
    exact ⟨hc.ne hb0.1 (by decide), c, hc⟩
  · have F1' : Fr T1 w w1 := F1.mono (fun k _ hk => (hr1.2 k hk).1)
    have es : slotsC sl ++ slotC noSl noVs = slotsC (sl ++ [(noSl, noVs)]) := by simp [slotsC]
    rw [es] at Q1
    have M1 := U1 (S' := wide S w w1) (T' := fun k => vs'.ownBlock = some k) (p' := rowP 133 10 vs' (sl.length + 1) (slotsC (sl ++ [(noSl, noVs)]))) F1' ⟨Q1, fun g hg => ⟨hg, (B1 g hg).2⟩⟩ (fun k hk => by
      obtain ⟨hx, c, hc⟩ := B1 k hk
      rcases hx with hx | hx
      · exact .inl (hr1.2 k hx).1
      · exact .inr ⟨hx, hc.lt⟩) (fun _ x => .inl x) (fun k hk => by
      obtain ⟨hx, c, hc⟩ := B1 k hk
      rcases hx with hx | hx
      · exact .inl (hT1 k (hr1.2 k hx).1).1
      · exact .inr ⟨hx, hc.lt⟩)
    have M1' := M1.push (S' := wide S w w1) (Fr.refl _ _) (slotP_nil w1) (fun _ x => x.elim) (fun _ x => x) (fun _ x => x.elim)
    have M1'' : Many w1 (blkP a 122 #[.slice aS sl.length cs, .slice af ar.free.length cf, .int .i64 ar.most, .int .i64 ar.used, .int .i64 ar.faults] :: (arL a vs' (.slice af ar.free.length cf) (sl ++ [(noSl, noVs)]) ar).tail) (wide S w w1) := by
      unfold arL at M1' ⊢
      simpa using M1'
    obtain ⟨T0', hb0', hT0', U0⟩ := M1''.take 0 rfl
    have F2 := (Fr.refl T0' w1).setCell (p := ⟨a, 0, none⟩) (.inl hb0'.2) vs'
    have Fa := (Fr.refl (fun k => k = a) w1).setCell (p := ⟨a, 0, none⟩) (.inl rfl) vs'
    have M2 := U0 (S' := wide S w w1) (T' := T0') (p' := blkP a 122 #[vs', .slice af ar.free.length cf, .int .i64 ar.most, .int .i64 ar.used, .int .i64 ar.faults]) F2 ⟨hb0'.1.set 0 _, hb0'.2⟩ (fun _ x => .inl x) (fun _ x => x) (fun k hk => (hT0' k hk).1)
    have hz : (w1.setCell ⟨a, 0, none⟩ vs').heap.size = w1.heap.size := by simp [World.setCell]
    refine U (p' := areP a { ar with slots := ar.slots ++ [noSl] }) (S' := wide S w w1) ((F1'.mono (fun k _ hk => (hT1 k hk).1)).trans Fa (fun k _ hk => by rw [hk]; exact (hT0 a hb0.2).1)) ⟨vs', .slice af ar.free.length cf, sl ++ [(noSl, noVs)], M2, by simp [hs]⟩ (fun k hk => ?_)
    rcases hk with hk | hk
    · exact .inl hk
    · exact .inr (by rw [hz]; exact hk)
end
end Go.Proofs.Ytkbnoceekileiaa
namespace Go.Proofs.Ytkbnoceekileiaa
open Go Go.RowKit
set_option maxRecDepth 100000
set_option linter.unusedVariables false
set_option linter.unusedSimpArgs false
def freeAr (r : Int) (ar : Ar) : Bool × Ar := match arAt ar r with
  | some p => (true, { (ar.put p { ar.at p with used := false }) with free := ar.free ++ [p], used := ar.used - 1 })
  | none => (false, ar.fault)
theorem info_int : (Try.prog.info? 3).map (fun i => (i.zero, i.size, i.bytes)) = some (some (.int .i64 0), 1, 8) := by kernel_rfl
section
variable {w0 w : World} {l : List Piece} {a : Nat} {ar : Ar}
theorem used_h (h : Heap w0 w l) (i : Nat) (hi : l[i]? = some (areP a ar)) (n : Int) : w.cell? ⟨a, 3, none⟩ = some (.int .i64 ar.used) ∧ w.frozen? ⟨a, 3, none⟩ = false ∧ Heap w0 (w.setCell ⟨a, 3, none⟩ (.int .i64 n)) (l.set i (areP a { ar with used := n })) := by
  obtain ⟨S, hS, _, U⟩ := h.take i hi
  obtain ⟨_, _, _, _, hb, hSa, h1, _⟩ := Are.head hS
  exact ⟨hb.cell 3, hb.froz 3, U (p' := areP a { ar with used := n }) ((Fr.refl S w).setCell (p := ⟨a, 3, none⟩) (.inl hSa) _) (h1 _) (fun _ x => .inl x)⟩
set_option maxHeartbeats 1000000 in
theorem Free_h (h : Heap w0 w l) (i : Nat) (hi : l[i]? = some (areP a ar)) (ok : OkAr ar) (hfr : ar.free.length ≤ 100000) (r : Int) :
    Calls Try.prog 60 #[.pointer (some ⟨a, 0, none⟩), .int .i64 r] w fun e w' => e = .returned (.bool (freeAr r ar).1) ∧ Heap w0 w' (l.set i (areP a (freeAr r ar).2)) := by
  unfold freeAr
  cases hr : arAt ar r with
  | none =>
    have C := Lib.hid (at_none_h h i hi ok r hr)
    clear hr h hi ok hfr
    go_enter Try.func60, Try.ntmps60
    go_wp2_with fail
    refine C.out.mono ?_
    rintro e w' ⟨rfl, H'⟩
    go_wp2_with fail
    go_ret
    exact ⟨rfl, H'⟩
  | some p =>
    dsimp only
    obtain ⟨s', hs', _, _, hp⟩ := arAt_some hr
    have hpl : p < ar.slots.length := (List.getElem?_eq_some_iff.1 hs').1
    have hil : i < l.length := (List.getElem?_eq_some_iff.1 hi).1
    obtain ⟨u0, u1⟩ := ok.used
    obtain ⟨g, off, cap, cf, af, v, hb, hcap, hc, hz, _, _, hu⟩ := slot_h h i hi (at_get hr)
    have C := Lib.hid (at_some_h h i hi ok r hr hb hcap hc)
    have c : w.cell? ⟨g, off + p * 10 + 9, none⟩ = some (.bool (ar.at p).used) := hc 9 _ rfl
    have z := hz (off + p * 10 + 9)
    have E := hu 9 (.bool false) { ar.at p with used := false } (by decide) rfl rfl rfl
    have HP := Lib.hid (fun w => Place_is r p w hp)
    have hp1 : p ≤ 65536 := by have := ok.few; omega
    obtain ⟨i0, hi0, hz0, hz1, hz2⟩ := info_parts info_int
    generalize hw1 : w.setCell ⟨g, off + p * 10 + 9, none⟩ (.bool false) = w1 at E
    have hi1 : (l.set i (areP a (ar.put p { ar.at p with used := false })))[i]? = some (areP a (ar.put p { ar.at p with used := false })) := List.getElem?_set_self hil
    obtain ⟨aS1, af1, cs1, cf1, hb1, hq1, hty, U1⟩ := free_h E i hi1
    have k1 : w1.cell? ⟨a, 1, none⟩ = some (.slice af1 (ar.put p { ar.at p with used := false }).free.length cf1) := hb1.cell 1
    have k3 : w1.cell? ⟨a, 3, none⟩ = some (.int .i64 ar.used) := hb1.cell 3
    have z1 := hb1.froz 1
    have z3 := hb1.froz 3
    have la : a < w1.heap.size := hb1.lt
    have ef : (ar.put p { ar.at p with used := false }).free = ar.free := rfl
    rw [ef] at k1 hq1 hty U1
    have hlm : ar.free.length + 1 ≤ maxLen := by unfold maxLen; omega
    have hlb : (ar.free.length + 1) * 8 ≤ 140737488355328 := by omega
    have HW1 := Lib.hid hw1
    have QQ := Lib.hid hq1
    have TY := Lib.hid hty
    have UU := Lib.hid U1
    clear hr h hi ok hb hcap hc hz hu hp hs' hw1 hb1 hq1 hty U1 ef hi1 hpl
    go_enter Try.func60, Try.ntmps60
    go_wp2_with fail
    refine C.out.mono ?_
    rintro e w' ⟨rfl, hw⟩
    have hw := hw.symm
    subst hw
    go_upto_region 5 with fail
    rw [HW1.out]
    go_cut [] (fun wx => Heap w0 wx (l.set i (areP a { (ar.put p { ar.at p with used := false }) with free := ar.free ++ [p] })))
    case first =>
      go_region_law (first
        | (refine step_append_typed _ (by rfl) _ _ _ (by rfl) 3 i0 (.int .i64 0) 1 8 Try.underlying114 hi0 hz0 hz1 hz2 rfl (by decide) (.slice af1 ar.free.length cf1) ar.free.length (intsC ar.free) (by rfl) (QQ.out.fr (F := nob) (by repeat (first | exact Fr.refl _ _ | apply Fr.drew | apply Fr.alloc)) (fun _ _ _ x => x)) _ 1 [.int .i64 (p : Nat)] (by rfl) (RdV.block (cs := #[.int .i64 (p : Nat)]) (t := 3) (by repeat (first | exact Blk.new' rfl _ _ | apply Blk.drew | apply Blk.alloc)) rfl (by decide)) (by simp [Value.oneCell']) hlm hlb ?_; intro a2 c2 w7 q7 grow7 hat7; have f7 : Fr (fun j => (Value.slice af1 ar.free.length cf1).ownBlock = some j) w1 w7 := Fr.grown (by repeat (first | exact Fr.refl _ _ | apply Fr.drew | apply Fr.alloc)) grow7 (fun k hk => .inl hk); have y1 := f7.cell' k1 (fun x => (TY.out a x).1 rfl); have y2 := f7.froz' k1 z1 (fun x => (TY.out a x).1 rfl))
        | (go_simp; go_at_call 78; refine (HP.out _).mono ?_; rintro e w' ⟨rfl, hw⟩; have hw := hw.symm; subst hw))
      all_goals
        have P := UU.out w7 (.slice a2 (ar.free.length + 1) c2) (ar.free ++ [p]) f7 (by rw [List.length_append]; simpa [intsC] using q7) (fun k hk => by
          rcases hat7 k hk with ⟨h, _, _⟩ | ⟨h, c⟩
          · exact absurd h (by decide)
          · refine ⟨h.imp_right (fun h => ?_), c⟩
            simp at h; omega)
        have PP := Lib.hid P
        clear P q7 grow7 hat7 f7
        go_wp2_with fail
        go_meet
        have h := PP.out
        rw [List.set_set] at h
        exact h
    case rest =>
      have hi2 : (l.set i (areP a { (ar.put p { ar.at p with used := false }) with free := ar.free ++ [p] }))[i]? = some (areP a { (ar.put p { ar.at p with used := false }) with free := ar.free ++ [p] }) := List.getElem?_set_self hil
      obtain ⟨k5, z4, U⟩ := used_h hcut i hi2 (ar.used - 1)
      have k4 : wc.cell? ⟨a, 3, none⟩ = some (.int .i64 ar.used) := k5
      clear k5
      rw [List.set_set] at U
      have FIN := Lib.hid U
      clear U hcut hi2 k1 k3 z1 z3 c z
      go_wp2_with fail
      go_ret
      exact ⟨rfl, FIN.out⟩
end
theorem Free_nil (r : Int) (w : World) : Calls Try.prog 60 #[.pointer none, .int .i64 r] w fun e w' => e = .returned (.bool false) ∧ w' = w := by
  have C := Lib.hid (at_nil r w)
  go_enter Try.func60, Try.ntmps60
  go_wp2_with (go_at_call 68; refine C.out.mono ?_; rintro e w' ⟨rfl, rfl⟩)
  go_ret
  exact ⟨rfl, rfl⟩
theorem Way_nil (r j : Int) (w : World) : Calls Try.prog 43 #[.pointer none, .int .i64 r, .int .i64 j] w fun e w' => e = .returned (.int .i64 0) ∧ w' = w := by
  have C := Lib.hid (at_nil r w)
  go_enter Try.func43, Try.ntmps43
  go_wp2_with (go_at_call 68; refine C.out.mono ?_; rintro e w' ⟨rfl, rfl⟩)
  go_ret
  exact ⟨rfl, rfl⟩
theorem SwapWay_nil (r j x y : Int) (w : World) : Calls Try.prog 59 #[.pointer none, .int .i64 r, .int .i64 j, .int .i64 x, .int .i64 y] w fun e w' => e = .returned (.bool false) ∧ w' = w := by
  have C := Lib.hid (at_nil r w)
  go_enter Try.func59, Try.ntmps59
  go_wp2_with (go_at_call 68; refine C.out.mono ?_; rintro e w' ⟨rfl, rfl⟩)
  go_ret
  exact ⟨rfl, rfl⟩
end Go.Proofs.Ytkbnoceekileiaa
namespace Go.Proofs.Ytkbnoceekileiaa
open Go Go.RowKit
set_option maxRecDepth 100000
set_option linter.unusedVariables false
set_option linter.unusedSimpArgs false
theorem pairC_one (l : List (Int × Int)) : ∀ u ∈ pairC l, u.oneCell' = true := by
  intro u hu
  simp only [pairC, List.mem_flatMap] at hu
  obtain ⟨p, _, hp⟩ := hu
  simp at hp
  rcases hp with rfl | rfl <;> rfl
theorem intC_one (l : List Int) : ∀ u ∈ intC l, u.oneCell' = true := by
  intro u hu
  obtain ⟨x, _, rfl⟩ := List.mem_map.1 hu
  rfl
/-- A node has not too many entries. -/
def Nd.few (n : Nd) : Prop := n.pairs.length ≤ 100000 ∧ n.keys.length ≤ 100000 ∧ n.ways.length ≤ 100000
/-- A node's slices, that one owns. -/
def ndL (n : Nd) (vp vk vn : Value) : List Piece := [rowP 77 2 vp n.pairs.length (pairC n.pairs), rowP 2 1 vk n.keys.length (intC n.keys), rowP 65 1 vn n.ways.length (intC n.ways)]
/-- A node as a value. -/
def ndV (n : Nd) (vp vk vn : Value) : Value := .agg #[.bool n.inner, .bool n.tagged, vp, vk, vn]
def lookAr (r : Int) (ar : Ar) : Nd × Ar := match arAt ar r with | some p => ((ar.at p).nd, ar) | none => (noNd, ar.fault)
section
variable {w0 w : World} {l : List Piece} {a : Nat} {ar : Ar}
theorem Heap.pushNil {w0 w : World} {l : List Piece} (h : Heap w0 w l) (t : TypeId) (sz : Nat) : Heap w0 w (l ++ [rowP t sz nilS 0 []]) := h.push (Fr.refl _ _) (rowP_nil w t sz) (fun _ x => x.elim)
set_option maxHeartbeats 2000000 in
theorem Look_h (h : Heap w0 w l) (i : Nat) (hi : l[i]? = some (areP a ar)) (ok : OkAr ar) (hfew : ∀ s ∈ ar.slots, s.nd.few) (r : Int) :
    Calls Try.prog 55 #[.pointer (some ⟨a, 0, none⟩), .int .i64 r] w fun e w' => ∃ vp vk vn, e = .returned (ndV (lookAr r ar).1 vp vk vn) ∧ Heap w0 w' (l.set i (areP a (lookAr r ar).2) ++ ndL (lookAr r ar).1 vp vk vn) := by
  unfold lookAr
  cases hr : arAt ar r with
  | none =>
    have hil : i < l.length := (List.getElem?_eq_some_iff.1 hi).1
    have h1 := h.alloc 112 #[.bool false, .bool false, nilS, nilS, nilS]
    generalize hR : w.heap.size = R at *
    have C := Lib.hid (at_none_h h1 i (get_left hi) ok r hr)
    clear hr h hi ok hfew h1
    unfold nilS at C
    go_enter Try.func55, Try.ntmps55
    go_wp2_with fail
    clear hR
    refine C.out.mono ?_
    rintro e w' ⟨rfl, H'⟩
    rw [List.set_append_left _ _ hil] at H'
    have hb := H'.blk (l.set i (areP a ar.fault)).length (get_last _ _)
    have k0 : w'.cell? ⟨R, 0, none⟩ = some (.bool false) := hb.cell 0
    have k1 : w'.cell? ⟨R, 1, none⟩ = some (.bool false) := hb.cell 1
    have k2 : w'.cell? ⟨R, 2, none⟩ = some (.slice none 0 0) := hb.cell 2
    have k3 : w'.cell? ⟨R, 3, none⟩ = some (.slice none 0 0) := hb.cell 3
    have k4 : w'.cell? ⟨R, 4, none⟩ = some (.slice none 0 0) := hb.cell 4
    have z0 := hb.froz 0
    have z1 := hb.froz 1
    have z2 := hb.froz 2
    have z3 := hb.froz 3
    have z4 := hb.froz 4
    have lR := hb.lt
    have HH := Lib.hid H'
    clear H' hb
    go_wp2_with fail
    have H5 := Heap.set5 (m := []) (by simpa using HH.out) _ (get_last _ _) (.bool false) (.bool false) (.slice none 0 0) (.slice none 0 0) (.slice none 0 0)
    rw [List.append_nil, List.set_append_right _ _ (Nat.le_refl _)] at H5
    generalize (((((w'.setCell ⟨R, 0, none⟩ (.bool false)).setCell ⟨R, 1, none⟩ (.bool false)).setCell ⟨R, 2, none⟩ (.slice none 0 0)).setCell ⟨R, 3, none⟩ (.slice none 0 0)).setCell ⟨R, 4, none⟩ (.slice none 0 0)) = W5 at H5 ⊢
    rw [Nat.sub_self, List.set_cons_zero] at H5
    have hb5 := H5.blk _ (get_last _ _)
    have e0 : W5.cell? ⟨R, 0, none⟩ = some (.bool false) := hb5.cell 0
    have e1 : W5.cell? ⟨R, 1, none⟩ = some (.bool false) := hb5.cell 1
    have e2 : W5.cell? ⟨R, 2, none⟩ = some (.slice none 0 0) := hb5.cell 2
    have e3 : W5.cell? ⟨R, 3, none⟩ = some (.slice none 0 0) := hb5.cell 3
    have e4 : W5.cell? ⟨R, 4, none⟩ = some (.slice none 0 0) := hb5.cell 4
    refine bodyPost_ret (v := ndV noNd nilS nilS nilS) (by simp [results, Try.results55, go_sem, ndV, noNd, nilS, e0, e1, e2, e3, e4]) rfl ⟨nilS, nilS, nilS, rfl, ?_⟩
    have H6 := (((H5.first.pushNil 77 2).pushNil 2 1).pushNil 65 1)
    simpa [ndL, noNd, pairC, intC] using H6
  | some p =>
    dsimp only
    have hs := areP_set hi
    rw [hs]
    have hil : i < l.length := (List.getElem?_eq_some_iff.1 hi).1
    obtain ⟨B1, B2, B3⟩ := hfew _ (List.mem_of_getElem? (at_get hr))
    have h1 := h.alloc 112 #[.bool false, .bool false, nilS, nilS, nilS]
    obtain ⟨g, off, cap, cf, af, v, hb, hcap, hc, hz, ⟨rp, rk, rn, _⟩, _, _⟩ := slot_h h1 i (get_left hi) (at_get hr)
    have C := Lib.hid (at_some_h h1 i (get_left hi) ok r hr hb hcap hc)
    have c0 := hc 0 (.bool (ar.at p).nd.inner) rfl
    have c1 := hc 1 (.bool (ar.at p).nd.tagged) rfl
    have c2 := hc 2 v.p rfl
    have c3 := hc 3 v.k rfl
    have c4 := hc 4 v.n rfl
    rw [Nat.add_zero] at c0
    clear hc
    generalize (ar.at p).nd = nd at *
    generalize hR : w.heap.size = R at *
    unfold nilS at *
    have HL1 := Lib.hid h1
    have RR := Lib.hid (And.intro rp (And.intro rk rn))
    clear hr h hi ok hfew h1 hb hcap hz hs rp rk rn
    go_enter Try.func55, Try.ntmps55
    go_wp2_with fail
    refine C.out.mono ?_
    rintro e w' ⟨rfl, hw⟩
    clear hR C
    generalize w.alloc (Obj.cells #[Value.bool false, Value.bool false, Value.slice none 0 0, Value.slice none 0 0, Value.slice none 0 0] 112) = W1 at *
    have hw := hw.symm
    subst hw
    generalize hvp : v.p = vp at *
    generalize hvk : v.k = vk at *
    generalize hvn : v.n = vn at *
    clear hvp hvk hvn
    obtain ⟨ap, cp, rfl⟩ := RR.out.1.len
    obtain ⟨ak, ck, rfl⟩ := RR.out.2.1.len
    obtain ⟨an, cn, rfl⟩ := RR.out.2.2.len
    go_upto_region 5 with fail
    have H2 := HL1.out.alloc 112 #[.bool nd.inner, .bool nd.tagged, .slice ap nd.pairs.length cp, .slice ak nd.keys.length ck, .slice an nd.ways.length cn]
    have F2 : Fr nob W1 (W1.alloc (.cells #[.bool nd.inner, .bool nd.tagged, .slice ap nd.pairs.length cp, .slice ak nd.keys.length ck, .slice an nd.ways.length cn] 112)) := Fr.alloc (Fr.refl _ _) _
    generalize hN : W1.heap.size = N at *
    clear hN
    generalize W1.alloc (.cells #[.bool nd.inner, .bool nd.tagged, .slice ap nd.pairs.length cp, .slice ak nd.keys.length ck, .slice an nd.ways.length cn] 112) = WW at *
    have RD : Hid (∀ x, Fr nob WW x → RdV x (.slice ap nd.pairs.length cp) nd.pairs.length 2 (pairC nd.pairs) ∧ RdV x (.slice ak nd.keys.length ck) nd.keys.length 1 (intC nd.keys) ∧ RdV x (.slice an nd.ways.length cn) nd.ways.length 1 (intC nd.ways)) := Lib.hid fun x hx => by
      obtain ⟨r1, r2, r3⟩ := RR.out
      have F := F2.trans hx (fun _ _ x => x)
      exact ⟨r1.fr F (fun _ _ _ x => x), r2.fr F (fun _ _ _ x => x), r3.fr F (fun _ _ _ x => x)⟩
    have O1 := pairC_one nd.pairs
    have O2 := intC_one nd.keys
    have O3 := intC_one nd.ways
    have E1 : nd.pairs.length ≤ 1000000 := by omega
    have E2 : nd.keys.length ≤ 1000000 := by omega
    have E3 : nd.ways.length ≤ 1000000 := by omega
    obtain ⟨jn, hjn⟩ : ∃ jn, jn = (l ++ [blkP R 112 #[.bool false, .bool false, .slice none 0 0, .slice none 0 0, .slice none 0 0]]).length := ⟨_, rfl⟩
    have HJ : Hid (((l ++ [blkP R 112 #[.bool false, .bool false, .slice none 0 0, .slice none 0 0, .slice none 0 0]]) ++ [blkP N 112 #[.bool nd.inner, .bool nd.tagged, .slice ap nd.pairs.length cp, .slice ak nd.keys.length ck, .slice an nd.ways.length cn]])[jn]? = some (blkP N 112 #[.bool nd.inner, .bool nd.tagged, .slice ap nd.pairs.length cp, .slice ak nd.keys.length ck, .slice an nd.ways.length cn])) := Lib.hid (by rw [hjn]; exact get_last _ _)
    have HJN := Lib.hid hjn
    clear hjn
    have NB := H2.blk jn HJ.out
    have u3 : WW.cell? ⟨N, 3, none⟩ = some (.slice ak nd.keys.length ck) := NB.cell 3
    have u4 : WW.cell? ⟨N, 4, none⟩ = some (.slice an nd.ways.length cn) := NB.cell 4
    have u2 : WW.cell? ⟨N, 2, none⟩ = some (.slice ap nd.pairs.length cp) := NB.cell 2
    have HL := Lib.hid H2
    have HO := Lib.hid (And.intro O1 (And.intro O2 O3))
    clear H2 F2 NB O1 O2 O3 c0 c1 c2 c3 c4
    go_cut [] (fun wx => ∃ a1 c1 a2 c2 a3 c3, Heap w0 wx ((l ++ [blkP R 112 #[.bool false, .bool false, .slice none 0 0, .slice none 0 0, .slice none 0 0]]) ++ [blkP N 112 #[.bool nd.inner, .bool nd.tagged, .slice a1 nd.pairs.length c1, .slice a2 nd.keys.length c2, .slice a3 nd.ways.length c3]] ++ ndL nd (.slice a1 nd.pairs.length c1) (.slice a2 nd.keys.length c2) (.slice a3 nd.ways.length c3)))
    case first =>
      refine wp_region_noPanic ?_
      refine AnyK.start (ks := [15]) (S := fun w' => w'.cell? ⟨N, 3, none⟩ = some (.slice ak nd.keys.length ck) ∧ w'.cell? ⟨N, 4, none⟩ = some (.slice an nd.ways.length cn)) (by kernel_rfl) (by go_keep) (fun hHeld => ?_)
      refine AnyK.take (i := 0) (v := ?_) rfl (by kernel_rfl) (by kernel_rfl) (by kernel_rfl) (by kernel_rfl) (fun _ _ _ h => h) (Or.inl ⟨by rfl, ?_⟩) (by assumption) ?_
      rotate_left
      focus
        intro w9 hSw
        try dsimp only at hSw
        go_simp
        try with_reducible rfl
      try simp only [Act.put, List.setIfInBounds_toArray, List.set_cons_zero, List.set_cons_succ]
      refine AnyK.take (i := 3) (v := ?_) rfl (by kernel_rfl) (by kernel_rfl) (by kernel_rfl) (by kernel_rfl) (fun _ _ _ h => h) (Or.inl ⟨by rfl, ?_⟩) (by assumption) ?_
      rotate_left
      focus
        intro w9 hSw
        try dsimp only at hSw
        go_simp
        try with_reducible rfl
      try simp only [Act.put, List.setIfInBounds_toArray, List.set_cons_zero, List.set_cons_succ]
      refine AnyK.take (i := 4) (v := ?_) rfl (by kernel_rfl) (by kernel_rfl) (by kernel_rfl) (by kernel_rfl) (fun _ _ _ h => h) (Or.inl ⟨by rfl, ?_⟩) (by assumption) ?_
      rotate_left
      focus
        intro w9 hSw
        try dsimp only at hSw
        go_simp
        try with_reducible rfl
      try simp only [Act.put, List.setIfInBounds_toArray, List.set_cons_zero, List.set_cons_succ]
      refine AnyK.take (i := 5) (v := ?_) rfl (by kernel_rfl) (by kernel_rfl) (by kernel_rfl) (by kernel_rfl) (fun _ _ _ h => h) (Or.inl ⟨by rfl, ?_⟩) (by assumption) ?_
      rotate_left
      focus
        intro w9 hSw
        try dsimp only at hSw
        go_simp
        try with_reducible rfl
      try simp only [Act.put, List.setIfInBounds_toArray, List.set_cons_zero, List.set_cons_succ]
      refine AnyK.take (i := 7) (v := ?_) rfl (by kernel_rfl) (by kernel_rfl) (by kernel_rfl) (by kernel_rfl) (fun _ _ _ h => h) (Or.inl ⟨by rfl, ?_⟩) (by assumption) ?_
      rotate_left
      focus
        intro w9 hSw
        try dsimp only at hSw
        go_simp
        try with_reducible rfl
      try simp only [Act.put, List.setIfInBounds_toArray, List.set_cons_zero, List.set_cons_succ]
      refine AnyK.take (i := 8) (v := ?_) rfl (by kernel_rfl) (by kernel_rfl) (by kernel_rfl) (by kernel_rfl) (fun _ _ _ h => h) (Or.inl ⟨by rfl, ?_⟩) (by assumption) ?_
      rotate_left
      focus
        intro w9 hSw
        try dsimp only at hSw
        go_simp
        try with_reducible rfl
      try simp only [Act.put, List.setIfInBounds_toArray, List.set_cons_zero, List.set_cons_succ]
      refine AnyK.take (i := 9) (v := ?_) rfl (by kernel_rfl) (by kernel_rfl) (by kernel_rfl) (by kernel_rfl) (fun _ _ _ h => h) (Or.inl ⟨by rfl, ?_⟩) (by assumption) ?_
      rotate_left
      focus
        intro w9 hSw
        try dsimp only at hSw
        go_simp
        try with_reducible rfl
      try simp only [Act.put, List.setIfInBounds_toArray, List.set_cons_zero, List.set_cons_succ]
      refine AnyK.one (i := 1) (by kernel_rfl) rfl (fun K hK => ?_)
      go_simp
      refine hK.out _ _ (fun _ => by assumption) ?_
      clear hK K
      try simp only [Act.put, List.setIfInBounds_toArray, List.set_cons_zero, List.set_cons_succ]
      have H0 := HL.out.drew
      have F0 : Fr nob WW WW.drew := Fr.drew (Fr.refl _ _)
      refine AnyK.one (i := 2) (by kernel_rfl) rfl (fun K hK => ?_)
      go_simp
      go_at_call 74
      refine (Clone_pair _ _ _ _ (RD.out _ F0).1 HO.out.1 E1).mono ?_
      rintro e x1 ⟨a1, c1, rfl, q1, b1, f1⟩
      have H1 := H0.pushRow f1 q1 b1
      have F1 := F0.trans f1 (fun _ _ x => x)
      have N1 := Heap.blk H1.first jn HJ.out
      have d1 : x1.cell? ⟨N, 3, none⟩ = some (.slice ak nd.keys.length ck) := N1.cell 3
      have g1 : x1.cell? ⟨N, 4, none⟩ = some (.slice an nd.ways.length cn) := N1.cell 4
      refine hK.out _ _ (fun _ => ⟨d1, g1⟩) ?_
      clear hK K
      try simp only [Act.put, List.setIfInBounds_toArray, List.set_cons_zero, List.set_cons_succ]
      refine AnyK.take (i := 12) (v := ?_) rfl (by kernel_rfl) (by kernel_rfl) (by kernel_rfl) (by kernel_rfl) (fun _ _ _ h => h) (Or.inl ⟨by rfl, ?_⟩) (by exact ⟨d1, g1⟩) ?_
      rotate_left
      focus
        intro w9 hSw
        try dsimp only at hSw
        go_simp
        try with_reducible rfl
      try simp only [Act.put, List.setIfInBounds_toArray, List.set_cons_zero, List.set_cons_succ]
      refine AnyK.one (i := 6) (by kernel_rfl) rfl (fun K hK => ?_)
      go_simp
      go_at_call 75
      refine (Clone_i64 _ _ _ _ (RD.out _ F1).2.1 HO.out.2.1 E2).mono ?_
      rintro e x2 ⟨a2, c2, rfl, q2, b2, f2⟩
      have H2 := H1.pushRow f2 q2 b2
      have F2 := F1.trans f2 (fun _ _ x => x)
      rw [List.append_assoc] at H2
      have N2 := Heap.blk H2.first jn HJ.out
      have d2 : x2.cell? ⟨N, 3, none⟩ = some (.slice ak nd.keys.length ck) := N2.cell 3
      have g2 : x2.cell? ⟨N, 4, none⟩ = some (.slice an nd.ways.length cn) := N2.cell 4
      refine hK.out _ _ (fun _ => ⟨d2, g2⟩) ?_
      clear hK K
      try simp only [Act.put, List.setIfInBounds_toArray, List.set_cons_zero, List.set_cons_succ]
      refine AnyK.one (i := 10) (by kernel_rfl) rfl (fun K hK => ?_)
      go_simp
      go_at_call 76
      refine (Clone_ref _ _ _ _ (RD.out _ F2).2.2 HO.out.2.2 E3).mono ?_
      rintro e x3 ⟨a3, c3, rfl, q3, b3, f3⟩
      have H3 := H2.pushRow f3 q3 b3
      have F3 := F2.trans f3 (fun _ _ x => x)
      rw [List.append_assoc] at H3
      have N3 := Heap.blk H3.first jn HJ.out
      have d3 : x3.cell? ⟨N, 3, none⟩ = some (.slice ak nd.keys.length ck) := N3.cell 3
      have g3 : x3.cell? ⟨N, 4, none⟩ = some (.slice an nd.ways.length cn) := N3.cell 4
      refine hK.out _ _ (fun _ => ⟨d3, g3⟩) ?_
      clear hK K
      try simp only [Act.put, List.setIfInBounds_toArray, List.set_cons_zero, List.set_cons_succ]
      have hS3 := And.intro d3 g3
      have k2 : x3.cell? ⟨N, 2, none⟩ = some (.slice ap nd.pairs.length cp) := N3.cell 2
      have z2 := N3.froz 2
      have z3 := N3.froz 3
      have z4 := N3.froz 4
      have HX := Lib.hid H3
      have HN := Lib.hid N3
      have HF := Lib.hid F3
      clear H0 H1 H2 H3 N1 N2 N3 d1 d2 g1 g2 q1 q2 q3 b1 b2 b3 f1 f2 f3 F0 F1 F2 F3
      refine AnyK.take (i := 11) (v := ?_) rfl (by kernel_rfl) (by kernel_rfl) (by kernel_rfl) (by kernel_rfl) (fun _ _ _ h => h) (Or.inl ⟨by rfl, ?_⟩) (by exact hS3) ?_
      rotate_left
      focus
        intro w9 hSw
        try dsimp only at hSw
        go_simp
        try with_reducible rfl
      try simp only [Act.put, List.setIfInBounds_toArray, List.set_cons_zero, List.set_cons_succ]
      refine AnyK.one (i := 13) (by kernel_rfl) rfl (fun K hK => ?_)
      go_simp
      refine hK.out _ _ (fun _ => ⟨(HN.out.set 2 _).cell 3, (HN.out.set 2 _).cell 4⟩) ?_
      clear hK K
      try simp only [Act.put, List.setIfInBounds_toArray, List.set_cons_zero, List.set_cons_succ]
      refine AnyK.take (i := 14) (v := ?_) rfl (by kernel_rfl) (by kernel_rfl) (by kernel_rfl) (by kernel_rfl) (fun _ _ _ h => h) (Or.inl ⟨by rfl, ?_⟩) (by exact ⟨(HN.out.set 2 _).cell 3, (HN.out.set 2 _).cell 4⟩) ?_
      rotate_left
      focus
        intro w9 hSw
        try dsimp only at hSw
        go_simp
        try with_reducible rfl
      try simp only [Act.put, List.setIfInBounds_toArray, List.set_cons_zero, List.set_cons_succ]
      refine AnyK.one (i := 15) (by kernel_rfl) rfl (fun K hK => ?_)
      go_simp
      refine hK.out _ _ (fun h => absurd (by decide) h) ?_
      clear hK K
      try simp only [Act.put, List.setIfInBounds_toArray, List.set_cons_zero, List.set_cons_succ]
      refine AnyK.done (by kernel_rfl) ?_ _
      refine NoPanic.normal ?_
      go_wp2_with fail
      go_meet
      refine ⟨a1, c1, a2, c2, a3, c3, ?_⟩
      have P := HX.out.set3 jn HJ.out (.slice a1 nd.pairs.length c1) (.slice a2 nd.keys.length c2) (.slice a3 nd.ways.length c3)
      rw [HJN.out, List.set_append_right _ _ (Nat.le_refl _), Nat.sub_self, List.set_cons_zero] at P
      simpa [ndL] using P
    case rest =>
      obtain ⟨a1, c1, a2, c2, a3, c3, H7⟩ := hcut
      have HA := H7.first
      have NB := HA.blk _ (get_last _ _)
      have RB := HA.first.blk _ (get_last _ _)
      have n0 : wc.cell? ⟨N, 0, none⟩ = some (.bool nd.inner) := NB.cell 0
      have n1 : wc.cell? ⟨N, 1, none⟩ = some (.bool nd.tagged) := NB.cell 1
      have n2 : wc.cell? ⟨N, 2, none⟩ = some (.slice a1 nd.pairs.length c1) := NB.cell 2
      have n3 : wc.cell? ⟨N, 3, none⟩ = some (.slice a2 nd.keys.length c2) := NB.cell 3
      have n4 : wc.cell? ⟨N, 4, none⟩ = some (.slice a3 nd.ways.length c3) := NB.cell 4
      have k0 : wc.cell? ⟨R, 0, none⟩ = some (.bool false) := RB.cell 0
      have k1 : wc.cell? ⟨R, 1, none⟩ = some (.bool false) := RB.cell 1
      have k2 : wc.cell? ⟨R, 2, none⟩ = some (.slice none 0 0) := RB.cell 2
      have k3 : wc.cell? ⟨R, 3, none⟩ = some (.slice none 0 0) := RB.cell 3
      have k4 : wc.cell? ⟨R, 4, none⟩ = some (.slice none 0 0) := RB.cell 4
      have z0 := RB.froz 0
      have z1 := RB.froz 1
      have z2 := RB.froz 2
      have z3 := RB.froz 3
      have z4 := RB.froz 4
      have HH := Lib.hid H7
      clear H7 HA NB RB
      go_wp2_with fail
      have H8 := HH.out
      rw [List.append_assoc] at H8
      have H5 := H8.set5 l.length (get_last _ _) (.bool nd.inner) (.bool nd.tagged) (.slice a1 nd.pairs.length c1) (.slice a2 nd.keys.length c2) (.slice a3 nd.ways.length c3)
      generalize (((((wc.setCell ⟨R, 0, none⟩ (.bool nd.inner)).setCell ⟨R, 1, none⟩ (.bool nd.tagged)).setCell ⟨R, 2, none⟩ (.slice a1 nd.pairs.length c1)).setCell ⟨R, 3, none⟩ (.slice a2 nd.keys.length c2)).setCell ⟨R, 4, none⟩ (.slice a3 nd.ways.length c3)) = W5 at H5 ⊢
      rw [List.set_append_right _ _ (Nat.le_refl _), Nat.sub_self, List.set_cons_zero] at H5
      have hb5 := H5.first.blk _ (get_last _ _)
      have e0 : W5.cell? ⟨R, 0, none⟩ = some (.bool nd.inner) := hb5.cell 0
      have e1 : W5.cell? ⟨R, 1, none⟩ = some (.bool nd.tagged) := hb5.cell 1
      have e2 : W5.cell? ⟨R, 2, none⟩ = some (.slice a1 nd.pairs.length c1) := hb5.cell 2
      have e3 : W5.cell? ⟨R, 3, none⟩ = some (.slice a2 nd.keys.length c2) := hb5.cell 3
      have e4 : W5.cell? ⟨R, 4, none⟩ = some (.slice a3 nd.ways.length c3) := hb5.cell 4
      refine bodyPost_ret (v := ndV nd (.slice a1 nd.pairs.length c1) (.slice a2 nd.keys.length c2) (.slice a3 nd.ways.length c3)) (by simp [results, Try.results55, go_sem, ndV, e0, e1, e2, e3, e4]) rfl ⟨(.slice a1 nd.pairs.length c1), (.slice a2 nd.keys.length c2), (.slice a3 nd.ways.length c3), rfl, ?_⟩
      exact Heap.mid (m := [blkP R 112 #[.bool nd.inner, .bool nd.tagged, (.slice a1 nd.pairs.length c1), (.slice a2 nd.keys.length c2), (.slice a3 nd.ways.length c3)], blkP N 112 #[.bool nd.inner, .bool nd.tagged, (.slice a1 nd.pairs.length c1), (.slice a2 nd.keys.length c2), (.slice a3 nd.ways.length c3)]]) (by simpa using H5)
end
end Go.Proofs.Ytkbnoceekileiaa
namespace Go.Proofs.Ytkbnoceekileiaa
open Go Go.RowKit
set_option maxRecDepth 100000
set_option linter.unusedVariables false
set_option linter.unusedSimpArgs false
/-- A piece gives way to another one, elsewhere. -/
theorem Many.swap {w : World} {l : List Piece} {S T : Nat → Prop} (h : Many w l S) (i : Nat) {p' : Piece} (hi : i < l.length) (hp : p'.holds w T) (hT : ∀ k, T k → ¬ S k ∧ k < w.heap.size) : Many w (l.set i p') (fun k => S k ∨ T k) := by
  obtain ⟨σ, h1, h2, h3⟩ := h
  refine ⟨fun j k => if j = i then T k else σ j k, fun j P hj => ?_, fun j k hk => ?_, fun j j' k hj hj' => ?_⟩
  · by_cases hji : j = i
    · subst hji
      rw [List.getElem?_set_self hi] at hj
      simp at hj
      subst hj
      simpa using hp
    · rw [List.getElem?_set_ne (fun x => hji x.symm)] at hj
      simp only [hji, if_false]
      exact h1 j P hj
  · simp only at hk
    split at hk
    · exact ⟨.inr hk, (hT k hk).2⟩
    · exact ⟨.inl (h2 j k hk).1, (h2 j k hk).2⟩
  · simp only at hj hj'
    split at hj <;> split at hj'
    · omega
    · exact absurd (h2 j' k hj').1 (hT k hj).1
    · exact absurd (h2 j k hj).1 (hT k hj').1
    · exact h3 j j' k hj hj'
theorem Many.weaken {w : World} {l l' : List Piece} {S : Nat → Prop} (h : Many w l S) (hw : ∀ (i : Nat) (P' : Piece), l'[i]? = some P' → ∃ P, l[i]? = some P ∧ ∀ T, P.holds w T → P'.holds w T) : Many w l' S := by
  obtain ⟨σ, h1, h2, h3⟩ := h
  exact ⟨σ, fun i P' hi => by obtain ⟨P, hP, hk⟩ := hw i P' hi; exact hk _ (h1 i P hP), h2, h3⟩
theorem slotsC_other (sl : List (Sl × Vs)) (p : Nat) (y : Sl × Vs) (k : Nat) (h : k < p * 10 ∨ p * 10 + 10 ≤ k) : (slotsC (sl.set p y))[k]? = (slotsC sl)[k]? := by
  have hk : k = k / 10 * 10 + k % 10 := by omega
  have hne : p ≠ k / 10 := by omega
  by_cases hl : k / 10 < sl.length
  · have h1 : sl[k / 10]? = some sl[k / 10] := List.getElem?_eq_getElem hl
    have h2 : (sl.set p y)[k / 10]? = some sl[k / 10] := by rw [List.getElem?_set_ne hne, h1]
    rw [hk, slotsC_get _ _ _ _ h2 (by omega), slotsC_get _ _ _ _ h1 (by omega)]
  · rw [List.getElem?_eq_none (by rw [slotsC_length, List.length_set]; omega), List.getElem?_eq_none (by rw [slotsC_length]; omega)]
theorem QRow.fill {w : World} {t : TypeId} {g off cap : Nat} {sl : List (Sl × Vs)} (h : QRow w t 10 (.slice (some ⟨g, off, none⟩) sl.length cap) sl.length (slotsC sl)) {p : Nat} (hp : p < sl.length) (y : Sl × Vs) :
    QRow (w.setCells g (off + p * 10) (slotC y.1 y.2)) t 10 (.slice (some ⟨g, off, none⟩) sl.length cap) sl.length (slotsC (sl.set p y)) ∧ ∃ c, Blk (w.setCells g (off + p * 10) (slotC y.1 y.2)) g t c := by
  obtain ⟨h0, a, c, hv, h1, h2, h3⟩ := h
  simp only [Value.slice.injEq] at hv
  obtain ⟨rfl, _, rfl⟩ := hv
  rcases h3 with ⟨rfl, _⟩ | ⟨g', off', cur, hg, hb, h4, h5⟩
  · omega
  · simp only [Option.some.injEq, Addr.mk.injEq] at hg
    obtain ⟨rfl, rfl, _⟩ := hg
    obtain ⟨cur', k1, k2, k3, k4⟩ := Blk.setCells (slotC y.1 y.2) (off + p * 10) hb (by rw [slotC_length]; omega)
    refine ⟨⟨by rw [slotsC_length, List.length_set], _, cap, rfl, h1, h2, .inr ⟨g, off, cur', rfl, k1, by rw [k2]; exact h4, fun j u hu => ?_⟩⟩, cur', k1⟩
    by_cases hj : j < p * 10 ∨ p * 10 + 10 ≤ j
    · rw [slotsC_other sl p y j hj] at hu
      rw [k3 _ (by rw [slotC_length]; omega)]
      exact h5 j u hu
    · have hy : (sl.set p y)[p]? = some y := List.getElem?_set_self hp
      have hjj : j = p * 10 + (j - p * 10) := by omega
      rw [hjj, slotsC_get _ p _ _ hy (by omega)] at hu
      have := k4 _ _ hu
      rwa [show off + p * 10 + (j - p * 10) = off + j from by omega] at this
theorem setCells_fr {F : Nat → Prop} {w : World} {g off : Nat} {news : List Value} (hF : F g) : Fr F w (w.setCells g off news) := by
  obtain ⟨r1, r2, r3, r4⟩ := setCells_rest (g := g) news w off
  exact ⟨r1, r2, r3, Nat.le_of_eq r4.symm, fun k hk hn => setCells_other news w off k (fun e => hn (e ▸ hF))⟩
/-- A place is filled. -/
theorem Are.fill {w : World} {a : Nat} {S T : Nat → Prop} {ar : Ar} (h : Are w a S ar) {p : Nat} (hp : p < ar.slots.length) {s' : Sl} {v' : Vs} (hs' : (slotP s' v').holds w T) (hT : ∀ k, T k → ¬ S k ∧ k < w.heap.size) {g off cap : Nat} {x1 x2 x3 x4 : Value}
    (hb : Blk w a 122 #[.slice (some ⟨g, off, none⟩) ar.slots.length cap, x1, x2, x3, x4]) : S g ∧ Are (w.setCells g (off + p * 10) (slotC s' v')) a (fun k => S k ∨ T k) { ar with slots := ar.slots.set p s' } := by
  obtain ⟨vs, vf, sl, hM, hs⟩ := h
  have hlen : sl.length = ar.slots.length := by rw [← hs]; simp
  obtain ⟨T0, hb0, _⟩ := hM.get 0 rfl
  obtain rfl : vs = .slice (some ⟨g, off, none⟩) ar.slots.length cap := by
    have e1 := hb0.1.cell 0
    have e2 := hb.cell 0
    rw [e1] at e2
    simpa using e2
  have hM1 := hM.swap (3 + p) (p' := slotP s' v') (by simp [arL]; omega) hs' hT
  obtain ⟨T1, hr1, hT1, U⟩ := hM1.take 1 (p := rowP 133 10 (.slice (some ⟨g, off, none⟩) ar.slots.length cap) sl.length (slotsC sl)) (by rw [List.getElem?_set_ne (by omega)]; rfl)
  have hr2 := hr1
  rw [← hlen] at hr1
  have hg := (hr1.2 g rfl).1
  obtain ⟨Q, c, hc⟩ := hr1.1.fill (p := p) (by omega) (s', v')
  obtain ⟨Tz, hrz, hTz⟩ := hM.get 1 rfl
  refine ⟨(hTz g (hrz.2 g rfl).1).1, ?_⟩
  have M := U (S' := fun k => S k ∨ T k) (T' := T1) (p' := rowP 133 10 (.slice (some ⟨g, off, none⟩) sl.length cap) sl.length (slotsC (sl.set p (s', v')))) (setCells_fr (w := w) (off := off + p * 10) (news := slotC s' v') hg) ⟨Q, fun k hk => by
    simp [Value.ownBlock] at hk
    subst hk
    exact ⟨hg, c, hc⟩⟩ (fun _ x => .inl x) (fun _ x => x) (fun k hk => (hT1 k hk).1)
  refine ⟨.slice (some ⟨g, off, none⟩) ar.slots.length cap, vf, sl.set p (s', v'), ?_, by rw [List.map_set, hs]⟩
  unfold arL at M ⊢
  rw [List.length_set, List.map_set]
  rw [List.set_append_right _ _ (by simp)] at M
  rw [← hlen]
  rw [← hlen] at M
  simpa using M
section
variable {w0 w : World} {l : List Piece} {a : Nat} {ar : Ar}
/-- The same, as the heap has it: the four slices lie behind. -/
theorem fill_h (i : Nat) (hi : l[i]? = some (areP a ar)) {p : Nat} (hp : p < ar.slots.length) {nd : Nd} {vp vk vn vw : Value} {s' : Sl} (hnd : s'.nd = nd) (hw : s'.ways = nd.ways)
    (h : Heap w0 w (l ++ (ndL nd vp vk vn ++ [rowP 65 1 vw nd.ways.length (intC nd.ways)]))) {g off cap : Nat} {x1 x2 x3 x4 : Value} (hb : Blk w a 122 #[.slice (some ⟨g, off, none⟩) ar.slots.length cap, x1, x2, x3, x4]) :
    Heap w0 (w.setCells g (off + p * 10) (slotC s' ⟨vp, vk, vn, vw⟩)) (l.set i (areP a { ar with slots := ar.slots.set p s' })) := by
  have hil := (List.getElem?_eq_some_iff.1 hi).1
  have h1 := h.pack
  obtain ⟨S, T, hS, hT, hd, hlt, U⟩ := h1.take2 i l.length (get_left hi) (get_last _ _) (by omega)
  have hTs : (slotP s' ⟨vp, vk, vn, vw⟩).holds w T := by
    have hT : Many w _ T := hT
    refine Many.weaken hT (fun j P' hj => ?_)
    rw [hnd, hw] at hj
    have hj4 : j < 4 := (List.getElem?_eq_some_iff.1 hj).1
    rcases (by omega : j = 0 ∨ j = 1 ∨ j = 2 ∨ j = 3) with rfl | rfl | rfl | rfl <;> (simp at hj; subst hj)
    · exact ⟨_, rfl, fun T h => rowP_rd h⟩
    · exact ⟨_, rfl, fun T h => rowP_rd h⟩
    · exact ⟨_, rfl, fun T h => rowP_rd h⟩
    · exact ⟨_, rfl, fun T h => h⟩
  obtain ⟨hSg, E⟩ := Are.fill hS hp hTs (fun k hk => ⟨fun hs => hd k hs hk, (hlt k (.inr hk)).2⟩) hb
  have H := U (p' := areP a { ar with slots := ar.slots.set p s' }) (q' := nilP) (S' := fun k => S k ∨ T k) (T' := fun _ => False) (setCells_fr (.inl hSg)) E trivial (fun _ _ x => x) (fun k hk => by
    rcases hk with (hk | hk) | hk
    · exact .inl hk
    · exact .inr (.inl hk)
    · exact hk.elim)
  rw [List.set_append_left _ _ hil, List.set_append_right _ _ (by rw [List.length_set]; exact Nat.le_refl _)] at H
  exact H.first
end
end Go.Proofs.Ytkbnoceekileiaa
namespace Go.Proofs.Ytkbnoceekileiaa
open Go Go.RowKit
set_option maxRecDepth 100000
set_option linter.unusedVariables false
set_option linter.unusedSimpArgs false
/-- The place that comes next: the first that was freed, else a new one. -/
def prepAr (ar : Ar) : Nat × Ar := match ar.free with | i :: r => (i, { ar with free := r }) | [] => (ar.slots.length, { ar with slots := ar.slots ++ [noSl] })
def newSl (nd : Nd) (c : Nat) : Sl := ⟨nd, nd.ways, 0, false, c, true⟩
def allocAr (nd : Nd) (ar : Ar) : (Int × Bool) × Ar :=
  if ar.most ≤ ar.used then ((0, false), ar)
  else ((refOf (prepAr ar).1 (((prepAr ar).2.at (prepAr ar).1).count + 1 : Nat), true), { (prepAr ar).2.put (prepAr ar).1 (newSl nd (((prepAr ar).2.at (prepAr ar).1).count + 1)) with used := ar.used + 1 })
/-- One more may be made. -/
structure MoreAr (ar : Ar) : Prop where
  ok : OkAr ar
  few : ar.slots.length ≤ 65000
  cnt : ∀ s ∈ ar.slots, s.count ≤ 900000
  frees : ar.free.length ≤ 100000
theorem prep_ok {ar : Ar} (h : MoreAr ar) : (prepAr ar).1 < (prepAr ar).2.slots.length ∧ (prepAr ar).1 ≤ 65535 ∧ (prepAr ar).2.used = ar.used ∧ ((prepAr ar).2.at (prepAr ar).1).count ≤ 900000 := by
  unfold prepAr
  cases hf : ar.free with
  | nil =>
    refine ⟨by simp, by have := h.few; simp; omega, rfl, ?_⟩
    simp [Ar.at, List.getD, noSl]
  | cons i r =>
    have hi := h.ok.free i (by rw [hf]; exact List.mem_cons_self)
    have := h.few
    refine ⟨hi, by simp; omega, rfl, ?_⟩
    have : (ar.slots.getD i default) ∈ ar.slots := by simp [List.getD, List.getElem?_eq_getElem hi]
    exact h.cnt _ this
theorem info_slot : (Try.prog.info? 133).map (fun i => (i.zero, i.size, i.bytes)) = some (some (.agg #[.bool false, .bool false, .slice none 0 0, .slice none 0 0, .slice none 0 0, .slice none 0 0, .int .i64 0, .bool false, .int .u32 0, .bool false]), 10, 128) := by kernel_rfl
section
variable {w0 w : World} {l : List Piece} {a : Nat} {ar : Ar}
set_option maxHeartbeats 4000000 in
set_option maxRecDepth 100000 in
theorem Alloc_h (h : Heap w0 w l) (i : Nat) (hi : l[i]? = some (areP a ar)) (ok : MoreAr ar) (nd : Nd) (hnd : nd.few) (vp vk vn : Value)
    (rd : ∀ x q, Heap w0 x (l.set i q) → RdV x vp nd.pairs.length 2 (pairC nd.pairs) ∧ RdV x vk nd.keys.length 1 (intC nd.keys) ∧ RdV x vn nd.ways.length 1 (intC nd.ways)) :
    Calls Try.prog 53 #[.pointer (some ⟨a, 0, none⟩), ndV nd vp vk vn] w fun e w' => e = .returned (.tuple #[.int .i64 (allocAr nd ar).1.1, .bool (allocAr nd ar).1.2]) ∧ Heap w0 w' (l.set i (areP a (allocAr nd ar).2)) := by
  have hil : i < l.length := (List.getElem?_eq_some_iff.1 hi).1
  have hs := areP_set hi
  obtain ⟨B1, B2, B3⟩ := hnd
  obtain ⟨r1, r2, r3⟩ := rd w (areP a ar) (by rw [hs]; exact h)
  obtain ⟨ap, cp, rfl⟩ := r1.len
  obtain ⟨ak, ck, rfl⟩ := r2.len
  obtain ⟨an, cn, rfl⟩ := r3.len
  clear r1 r2 r3
  have h1 := h.alloc 112 #[.bool nd.inner, .bool nd.tagged, .slice ap nd.pairs.length cp, .slice ak nd.keys.length ck, .slice an nd.ways.length cn]
  generalize hN : w.heap.size = N at *
  have RDH := Lib.hid rd
  have OK := Lib.hid ok
  have HI := Lib.hid hi
  have HS := Lib.hid hs
  clear rd ok hi hs h
  obtain ⟨aS, af, cs, cf, hb, _, _, _⟩ := free_h h1 i (get_left HI.out)
  have m2 := hb.cell 2
  have m3 := hb.cell 3
  have k2 : (w.alloc (.cells #[.bool nd.inner, .bool nd.tagged, .slice ap nd.pairs.length cp, .slice ak nd.keys.length ck, .slice an nd.ways.length cn] 112)).cell? ⟨a, 2, none⟩ = some (.int .i64 ar.most) := m2
  have k3 : (w.alloc (.cells #[.bool nd.inner, .bool nd.tagged, .slice ap nd.pairs.length cp, .slice ak nd.keys.length ck, .slice an nd.ways.length cn] 112)).cell? ⟨a, 3, none⟩ = some (.int .i64 ar.used) := m3
  clear hb m2 m3
  have H1 := Lib.hid h1
  clear h1
  unfold ndV
  by_cases hfull : ar.most ≤ ar.used
  · have e0 : allocAr nd ar = ((0, false), ar) := by unfold allocAr; rw [if_pos hfull]
    rw [e0]
    dsimp only
    have hd : decide (ar.most ≤ ar.used) = true := by simpa using hfull
    clear e0
    rw [HS.out]
    go_enter Try.func53, Try.ntmps53
    go_wp2_with fail
    clear hN
    generalize w.alloc (.cells #[.bool nd.inner, .bool nd.tagged, .slice ap nd.pairs.length cp, .slice ak nd.keys.length ck, .slice an nd.ways.length cn] 112) = W1 at *
    go_quiet (fail)
    go_wp2_with fail
    go_ret2
    exact ⟨rfl, (H1.out.drewN _).first⟩
  · have e0 : allocAr nd ar = ((refOf (prepAr ar).1 (((prepAr ar).2.at (prepAr ar).1).count + 1 : Nat), true), { (prepAr ar).2.put (prepAr ar).1 (newSl nd (((prepAr ar).2.at (prepAr ar).1).count + 1)) with used := ar.used + 1 }) := by unfold allocAr; rw [if_neg hfull]
    rw [e0]
    dsimp only
    obtain ⟨q1, q2, q3, q4⟩ := prep_ok OK.out
    generalize hpr : prepAr ar = pr at *
    obtain ⟨pi, ar1⟩ := pr
    simp only at q1 q2 q3 q4 ⊢
    generalize hcnt : (ar1.at pi).count = cnt at *
    have HPR := Lib.hid hpr
    have HC := Lib.hid hcnt
    clear hpr hcnt
    have hd : decide (ar.most ≤ ar.used) = false := by simpa using hfull
    obtain ⟨u0, u1⟩ := OK.out.ok.used
    have bm := OK.out.ok.most
    have hfew := OK.out.few
    have hfrees := OK.out.frees
    clear e0
    go_enter Try.func53, Try.ntmps53
    go_wp2_with fail
    clear hN
    generalize w.alloc (.cells #[.bool nd.inner, .bool nd.tagged, .slice ap nd.pairs.length cp, .slice ak nd.keys.length ck, .slice an nd.ways.length cn] 112) = W1 at *
    go_quiet (fail)
    have h2 := H1.out.drewN nq
    generalize W1.drewN nq = W2 at *
    clear k2 k3 H1 hfull hd
    obtain ⟨aS1, af1, cs1, cf1, hb1, fq, fty, FU⟩ := free_h h2 i (get_left HI.out)
    obtain ⟨aS2, af2, cs2, cf2, us, hb2, gq, gty, GU⟩ := grow_h h2 i (get_left HI.out)
    have j0 : W2.cell? ⟨a, 0, none⟩ = some (.slice aS2 ar.slots.length cs2) := hb2.cell 0
    have j1 : W2.cell? ⟨a, 1, none⟩ = some (.slice af1 ar.free.length cf1) := hb1.cell 1
    have y0 := hb1.froz 0
    have y1 := hb1.froz 1
    have la := hb1.lt
    have FA := Lib.hid (And.intro fq (And.intro fty FU))
    have GA := Lib.hid (And.intro gq (And.intro gty GU))
    clear hb1 hb2 fq fty FU gq gty GU h2
    go_upto_if 31 with fail
    go_cut [6] (fun s6 wx => s6 = .int .i64 (pi : Nat) ∧ Heap w0 wx (l.set i (areP a ar1) ++ [blkP N 112 #[.bool nd.inner, .bool nd.tagged, .slice ap nd.pairs.length cp, .slice ak nd.keys.length ck, .slice an nd.ways.length cn]]))
    case first =>
      cases hf : ar.free with
      | nil =>
        have HP : Hid (prepAr ar = (ar.slots.length, { ar with slots := ar.slots ++ [noSl] })) := Lib.hid (by unfold prepAr; rw [hf])
        rw [hf] at j1
        obtain ⟨i0, hi0, hz0, hz1, hz2⟩ := info_parts info_slot
        have hlm : ar.slots.length + 1 ≤ maxLen := by unfold maxLen; omega
        have hlb : (ar.slots.length + 1) * 128 ≤ 140737488355328 := by omega
        have HF := Lib.hid hf
        clear hf
        go_wp2_with (at_builtin; refine wpList_append_typed _ rfl _ _ _ (by rfl) 133 i0 _ 10 128 Try.underlying120 hi0 hz0 hz1 hz2 rfl (by decide) (.slice aS2 ar.slots.length cs2) ar.slots.length us (by rfl) (GA.out.1.fr (F := nob) (by repeat (first | exact Fr.refl _ _ | apply Fr.drew | apply Fr.alloc)) (fun _ _ _ x => x)) _ 1 (slotC noSl noVs) (by rfl) (RdV.block (cs := (slotC noSl noVs).toArray) (t := 133) (by repeat (first | exact Blk.new' rfl _ _ | apply Blk.drew | apply Blk.alloc)) rfl (by decide)) (by simp [Value.oneCell', slotC, noSl, noVs, nilS, noNd]) hlm hlb ?_)
        intro a7 c7 w7 q7 grow7 hat7
        have f7 : Fr (fun j => (Value.slice aS2 ar.slots.length cs2).ownBlock = some j) W2 w7 := Fr.grown (by repeat (first | exact Fr.refl _ _ | apply Fr.drew | apply Fr.alloc)) grow7 (fun k hk => .inl hk)
        have x1 := f7.cell' j0 (fun x => (GA.out.2.1 a x).1 rfl)
        have x2 := f7.froz' j0 y0 (fun x => (GA.out.2.1 a x).1 rfl)
        have P := GA.out.2.2 w7 (.slice a7 (ar.slots.length + 1) c7) f7 q7 (fun k hk => by
          obtain ⟨h, c⟩ := hat7 k hk
          refine ⟨h.imp_right (fun h => ?_), c⟩
          try simp at h
          omega)
        rw [List.set_append_left _ _ hil] at P
        have PP := Lib.hid P
        clear P q7 grow7 hat7 f7
        go_wp2_with fail
        go_meet
        obtain ⟨rfl, rfl⟩ := Prod.mk.inj (HPR.out.symm.trans HP.out)
        exact ⟨rfl, PP.out⟩
      | cons i1 rest =>
        have HP : Hid (prepAr ar = (i1, { ar with free := rest })) := Lib.hid (by unfold prepAr; rw [hf])
        rw [hf] at j1 FA
        have fq := FA.out.1
        obtain ⟨gf, of_, cur, rfl, _, hcf, hat⟩ := fq.at (by simp)
        have xf : W2.cell? ⟨gf, of_, none⟩ = some (.int .i64 (i1 : Nat)) := hat 0 _ rfl
        obtain ⟨P1, P2⟩ := QRow.pop (n := rest.length) fq
        have fty := FA.out.2.1
        have B7 : ∀ (o : Nat) (n c : Nat) (g : Nat), (Value.slice (some ⟨gf, o, none⟩) n c).ownBlock = some g → ((Value.slice (some ⟨gf, of_, none⟩) (i1 :: rest).length cf1).ownBlock = some g ∨ W2.heap.size ≤ g) ∧ ∃ c, Blk W2 g 3 c := fun o n c g hg => by
          simp [Value.ownBlock] at hg
          subst hg
          exact ⟨.inl rfl, (fty _ rfl).2⟩
        have lf := (fty gf rfl).1
        by_cases hc1 : cf1 = 1
        · subst hc1
          have hr0 : rest.length = 0 := by simp only [List.length_cons] at hcf; omega
          obtain rfl : rest = [] := List.eq_nil_of_length_eq_zero hr0
          have PP := Lib.hid (FA.out.2.2 W2 (.slice (some ⟨gf, of_, none⟩) 0 0) [] (Fr.refl _ _) (P2 rfl) (B7 _ _ _))
          rw [List.set_append_left _ _ hil] at PP
          simp only [List.length_cons, List.length_nil] at *
          clear hat P1 P2 fq fty hcf B7 hr0 hf FA
          go_wp2_with fail
          go_region
          all_goals
            go_wp2_with fail
            go_meet
            obtain ⟨rfl, rfl⟩ := Prod.mk.inj (HPR.out.symm.trans HP.out)
            exact ⟨rfl, PP.out.drew⟩
        · have hc2 : 2 ≤ cf1 := by simp only [List.length_cons] at hcf; omega
          have PP := Lib.hid (FA.out.2.2 W2 (.slice (some ⟨gf, of_ + 1, none⟩) rest.length (cf1 - 1)) rest (Fr.refl _ _) P1 (B7 _ _ _))
          rw [List.set_append_left _ _ hil] at PP
          simp only [List.length_cons] at *
          clear hat P1 P2 fq fty hcf B7 hf FA
          go_wp2_with fail
          go_region
          all_goals
            go_wp2_with fail
            go_meet
            obtain ⟨rfl, rfl⟩ := Prod.mk.inj (HPR.out.symm.trans HP.out)
            exact ⟨rfl, PP.out.drew⟩
    case rest =>
      obtain ⟨rfl, H3⟩ := hcut
      clear j0 j1 y0 y1 la FA GA
      have hia : (l.set i (areP a ar1))[i]? = some (areP a ar1) := List.getElem?_set_self hil
      have hps : ar1.slots[pi]? = some (ar1.at pi) := by simp [Ar.at, List.getD, List.getElem?_eq_getElem q1]
      obtain ⟨g, off, cap, cf3, af3, v3, hb3, hcap3, _, _, _, _, _⟩ := slot_h H3 i (get_left hia) hps
      have j0 : wc.cell? ⟨a, 0, none⟩ = some (.slice (some ⟨g, off, none⟩) ar1.slots.length cap) := hb3.cell 0
      obtain ⟨r1, r2, r3⟩ := RDH.out wc (areP a ar1) H3.first
      have RD : Hid (∀ x, Fr nob wc x → RdV x (.slice ap nd.pairs.length cp) nd.pairs.length 2 (pairC nd.pairs) ∧ RdV x (.slice ak nd.keys.length ck) nd.keys.length 1 (intC nd.keys) ∧ RdV x (.slice an nd.ways.length cn) nd.ways.length 1 (intC nd.ways)) := Lib.hid fun x F => ⟨r1.fr F (fun _ _ _ x => x), r2.fr F (fun _ _ _ x => x), r3.fr F (fun _ _ _ x => x)⟩
      clear r1 r2 r3
      have E1 : nd.pairs.length ≤ 1000000 := by omega
      have E2 : nd.keys.length ≤ 1000000 := by omega
      have E3 : nd.ways.length ≤ 1000000 := by omega
      have HO := Lib.hid (And.intro (pairC_one nd.pairs) (And.intro (intC_one nd.keys) (intC_one nd.ways)))
      obtain ⟨jn, hjn⟩ : ∃ jn, jn = (l.set i (areP a ar1)).length := ⟨_, rfl⟩
      have HJ : Hid ((l.set i (areP a ar1) ++ [blkP N 112 #[.bool nd.inner, .bool nd.tagged, .slice ap nd.pairs.length cp, .slice ak nd.keys.length ck, .slice an nd.ways.length cn]])[jn]? = some (blkP N 112 #[.bool nd.inner, .bool nd.tagged, .slice ap nd.pairs.length cp, .slice ak nd.keys.length ck, .slice an nd.ways.length cn])) := Lib.hid (by rw [hjn]; exact get_last _ _)
      have HJN := Lib.hid hjn
      clear hjn
      have NB := H3.blk jn HJ.out
      have u3 : wc.cell? ⟨N, 3, none⟩ = some (.slice ak nd.keys.length ck) := NB.cell 3
      have u4 : wc.cell? ⟨N, 4, none⟩ = some (.slice an nd.ways.length cn) := NB.cell 4
      have u2 : wc.cell? ⟨N, 2, none⟩ = some (.slice ap nd.pairs.length cp) := NB.cell 2
      have hNa : N ≠ a := NB.ne hb3 (by decide)
      have HL := Lib.hid H3
      have HB3 := Lib.hid hb3
      have HIA := Lib.hid (And.intro hia hps)
      clear NB H3 hb3 hia hps
      go_upto_region 8 with fail
      go_cut [] (fun wx => ∃ a1 c1 a2 c2 a3 c3, Blk wx a 122 #[.slice (some ⟨g, off, none⟩) ar1.slots.length cap, .slice af3 ar1.free.length cf3, .int .i64 ar1.most, .int .i64 ar1.used, .int .i64 ar1.faults] ∧ Heap w0 wx (l.set i (areP a ar1) ++ [blkP N 112 #[.bool nd.inner, .bool nd.tagged, .slice a1 nd.pairs.length c1, .slice a2 nd.keys.length c2, .slice a3 nd.ways.length c3]] ++ ndL nd (.slice a1 nd.pairs.length c1) (.slice a2 nd.keys.length c2) (.slice a3 nd.ways.length c3)))
      case first =>
        refine wp_region_noPanic ?_
        refine AnyK.start (ks := [15]) (S := fun w' => w'.cell? ⟨N, 3, none⟩ = some (.slice ak nd.keys.length ck) ∧ w'.cell? ⟨N, 4, none⟩ = some (.slice an nd.ways.length cn)) (by kernel_rfl) (by go_keep) (fun hHeld => ?_)
        refine AnyK.take (i := 0) (v := ?_) rfl (by kernel_rfl) (by kernel_rfl) (by kernel_rfl) (by kernel_rfl) (fun _ _ _ h => h) (Or.inl ⟨by rfl, ?_⟩) (by assumption) ?_
        rotate_left
        focus
          intro w9 hSw
          try dsimp only at hSw
          go_simp
          try with_reducible rfl
        try simp only [Act.put, List.setIfInBounds_toArray, List.set_cons_zero, List.set_cons_succ]
        refine AnyK.take (i := 3) (v := ?_) rfl (by kernel_rfl) (by kernel_rfl) (by kernel_rfl) (by kernel_rfl) (fun _ _ _ h => h) (Or.inl ⟨by rfl, ?_⟩) (by assumption) ?_
        rotate_left
        focus
          intro w9 hSw
          try dsimp only at hSw
          go_simp
          try with_reducible rfl
        try simp only [Act.put, List.setIfInBounds_toArray, List.set_cons_zero, List.set_cons_succ]
        refine AnyK.take (i := 4) (v := ?_) rfl (by kernel_rfl) (by kernel_rfl) (by kernel_rfl) (by kernel_rfl) (fun _ _ _ h => h) (Or.inl ⟨by rfl, ?_⟩) (by assumption) ?_
        rotate_left
        focus
          intro w9 hSw
          try dsimp only at hSw
          go_simp
          try with_reducible rfl
        try simp only [Act.put, List.setIfInBounds_toArray, List.set_cons_zero, List.set_cons_succ]
        refine AnyK.take (i := 5) (v := ?_) rfl (by kernel_rfl) (by kernel_rfl) (by kernel_rfl) (by kernel_rfl) (fun _ _ _ h => h) (Or.inl ⟨by rfl, ?_⟩) (by assumption) ?_
        rotate_left
        focus
          intro w9 hSw
          try dsimp only at hSw
          go_simp
          try with_reducible rfl
        try simp only [Act.put, List.setIfInBounds_toArray, List.set_cons_zero, List.set_cons_succ]
        refine AnyK.take (i := 7) (v := ?_) rfl (by kernel_rfl) (by kernel_rfl) (by kernel_rfl) (by kernel_rfl) (fun _ _ _ h => h) (Or.inl ⟨by rfl, ?_⟩) (by assumption) ?_
        rotate_left
        focus
          intro w9 hSw
          try dsimp only at hSw
          go_simp
          try with_reducible rfl
        try simp only [Act.put, List.setIfInBounds_toArray, List.set_cons_zero, List.set_cons_succ]
        refine AnyK.take (i := 8) (v := ?_) rfl (by kernel_rfl) (by kernel_rfl) (by kernel_rfl) (by kernel_rfl) (fun _ _ _ h => h) (Or.inl ⟨by rfl, ?_⟩) (by assumption) ?_
        rotate_left
        focus
          intro w9 hSw
          try dsimp only at hSw
          go_simp
          try with_reducible rfl
        try simp only [Act.put, List.setIfInBounds_toArray, List.set_cons_zero, List.set_cons_succ]
        refine AnyK.take (i := 9) (v := ?_) rfl (by kernel_rfl) (by kernel_rfl) (by kernel_rfl) (by kernel_rfl) (fun _ _ _ h => h) (Or.inl ⟨by rfl, ?_⟩) (by assumption) ?_
        rotate_left
        focus
          intro w9 hSw
          try dsimp only at hSw
          go_simp
          try with_reducible rfl
        try simp only [Act.put, List.setIfInBounds_toArray, List.set_cons_zero, List.set_cons_succ]
        refine AnyK.one (i := 1) (by kernel_rfl) rfl (fun K hK => ?_)
        go_simp
        refine hK.out _ _ (fun _ => by assumption) ?_
        clear hK K
        try simp only [Act.put, List.setIfInBounds_toArray, List.set_cons_zero, List.set_cons_succ]
        have H0 := HL.out.drew
        have F0 : Fr nob wc wc.drew := Fr.drew (Fr.refl _ _)
        refine AnyK.one (i := 2) (by kernel_rfl) rfl (fun K hK => ?_)
        go_simp
        go_at_call 74
        refine (Clone_pair _ _ _ _ (RD.out _ F0).1 HO.out.1 E1).mono ?_
        rintro e x1 ⟨a1, c1, rfl, q1, b1, f1⟩
        have H1 := H0.pushRow f1 q1 b1
        have F1 := F0.trans f1 (fun _ _ x => x)
        have N1 := Heap.blk H1.first jn HJ.out
        have d1 : x1.cell? ⟨N, 3, none⟩ = some (.slice ak nd.keys.length ck) := N1.cell 3
        have g1 : x1.cell? ⟨N, 4, none⟩ = some (.slice an nd.ways.length cn) := N1.cell 4
        refine hK.out _ _ (fun _ => ⟨d1, g1⟩) ?_
        clear hK K
        try simp only [Act.put, List.setIfInBounds_toArray, List.set_cons_zero, List.set_cons_succ]
        refine AnyK.take (i := 12) (v := ?_) rfl (by kernel_rfl) (by kernel_rfl) (by kernel_rfl) (by kernel_rfl) (fun _ _ _ h => h) (Or.inl ⟨by rfl, ?_⟩) (by exact ⟨d1, g1⟩) ?_
        rotate_left
        focus
          intro w9 hSw
          try dsimp only at hSw
          go_simp
          try with_reducible rfl
        try simp only [Act.put, List.setIfInBounds_toArray, List.set_cons_zero, List.set_cons_succ]
        refine AnyK.one (i := 6) (by kernel_rfl) rfl (fun K hK => ?_)
        go_simp
        go_at_call 75
        refine (Clone_i64 _ _ _ _ (RD.out _ F1).2.1 HO.out.2.1 E2).mono ?_
        rintro e x2 ⟨a2, c2, rfl, q2, b2, f2⟩
        have H2 := H1.pushRow f2 q2 b2
        have F2 := F1.trans f2 (fun _ _ x => x)
        rw [List.append_assoc] at H2
        have N2 := Heap.blk H2.first jn HJ.out
        have d2 : x2.cell? ⟨N, 3, none⟩ = some (.slice ak nd.keys.length ck) := N2.cell 3
        have g2 : x2.cell? ⟨N, 4, none⟩ = some (.slice an nd.ways.length cn) := N2.cell 4
        refine hK.out _ _ (fun _ => ⟨d2, g2⟩) ?_
        clear hK K
        try simp only [Act.put, List.setIfInBounds_toArray, List.set_cons_zero, List.set_cons_succ]
        refine AnyK.one (i := 10) (by kernel_rfl) rfl (fun K hK => ?_)
        go_simp
        go_at_call 76
        refine (Clone_ref _ _ _ _ (RD.out _ F2).2.2 HO.out.2.2 E3).mono ?_
        rintro e x3 ⟨a3, c3, rfl, q3, b3, f3⟩
        have H3 := H2.pushRow f3 q3 b3
        have F3 := F2.trans f3 (fun _ _ x => x)
        rw [List.append_assoc] at H3
        have N3 := Heap.blk H3.first jn HJ.out
        have d3 : x3.cell? ⟨N, 3, none⟩ = some (.slice ak nd.keys.length ck) := N3.cell 3
        have g3 : x3.cell? ⟨N, 4, none⟩ = some (.slice an nd.ways.length cn) := N3.cell 4
        refine hK.out _ _ (fun _ => ⟨d3, g3⟩) ?_
        clear hK K
        try simp only [Act.put, List.setIfInBounds_toArray, List.set_cons_zero, List.set_cons_succ]
        have hS3 := And.intro d3 g3
        have k2 : x3.cell? ⟨N, 2, none⟩ = some (.slice ap nd.pairs.length cp) := N3.cell 2
        have z2 := N3.froz 2
        have z3 := N3.froz 3
        have z4 := N3.froz 4
        have HX := Lib.hid H3
        have HN := Lib.hid N3
        have HF := Lib.hid F3
        clear H0 H1 H2 H3 N1 N2 N3 d1 d2 g1 g2 q1 q2 q3 b1 b2 b3 f1 f2 f3 F0 F1 F2 F3
        refine AnyK.take (i := 11) (v := ?_) rfl (by kernel_rfl) (by kernel_rfl) (by kernel_rfl) (by kernel_rfl) (fun _ _ _ h => h) (Or.inl ⟨by rfl, ?_⟩) (by exact hS3) ?_
        rotate_left
        focus
          intro w9 hSw
          try dsimp only at hSw
          go_simp
          try with_reducible rfl
        try simp only [Act.put, List.setIfInBounds_toArray, List.set_cons_zero, List.set_cons_succ]
        refine AnyK.one (i := 13) (by kernel_rfl) rfl (fun K hK => ?_)
        go_simp
        refine hK.out _ _ (fun _ => ⟨(HN.out.set 2 _).cell 3, (HN.out.set 2 _).cell 4⟩) ?_
        clear hK K
        try simp only [Act.put, List.setIfInBounds_toArray, List.set_cons_zero, List.set_cons_succ]
        refine AnyK.take (i := 14) (v := ?_) rfl (by kernel_rfl) (by kernel_rfl) (by kernel_rfl) (by kernel_rfl) (fun _ _ _ h => h) (Or.inl ⟨by rfl, ?_⟩) (by exact ⟨(HN.out.set 2 _).cell 3, (HN.out.set 2 _).cell 4⟩) ?_
        rotate_left
        focus
          intro w9 hSw
          try dsimp only at hSw
          go_simp
          try with_reducible rfl
        try simp only [Act.put, List.setIfInBounds_toArray, List.set_cons_zero, List.set_cons_succ]
        refine AnyK.one (i := 15) (by kernel_rfl) rfl (fun K hK => ?_)
        go_simp
        refine hK.out _ _ (fun h => absurd (by decide) h) ?_
        clear hK K
        try simp only [Act.put, List.setIfInBounds_toArray, List.set_cons_zero, List.set_cons_succ]
        refine AnyK.done (by kernel_rfl) ?_ _
        refine NoPanic.normal ?_
        go_wp2_with fail
        go_meet
        refine ⟨a1, c1, a2, c2, a3, c3, (((HB3.out.fr HF.out (fun x => x)).other (p := ⟨N, 2, none⟩) hNa _).other (p := ⟨N, 3, none⟩) hNa _).other (p := ⟨N, 4, none⟩) hNa _, ?_⟩
        have P := HX.out.set3 jn HJ.out (.slice a1 nd.pairs.length c1) (.slice a2 nd.keys.length c2) (.slice a3 nd.ways.length c3)
        rw [HJN.out, List.set_append_right _ _ (Nat.le_refl _), Nat.sub_self, List.set_cons_zero] at P
        simpa [ndL] using P
      case rest =>
        clear j0 u2 u3 u4 HL HB3 RD HJ HJN
        obtain ⟨a1, c1, a2, c2, a3, c3, hb4, H4⟩ := hcut
        rw [List.append_assoc] at H4
        obtain ⟨g', off', cap', cf4, af4, v4, hb5, hcap5, hc5, hz5, _, _, hu5⟩ := slot_h H4 i (get_left HIA.out.1) HIA.out.2
        obtain ⟨rfl, rfl⟩ : g' = g ∧ off' = off := by
          have e1 := hb4.cell 0
          rw [hb5.cell 0] at e1
          simp at e1
          exact ⟨e1.1.1, e1.1.2⟩
        have c8 : wc.cell? ⟨g', off' + pi * 10 + 8, none⟩ = some (.int .u32 (ar1.at pi).count) := hc5 8 _ rfl
        have z8 := hz5 (off' + pi * 10 + 8)
        have U5 := hu5 8 (.int .u32 (((ar1.at pi).count + 1 : Nat) : Int)) { ar1.at pi with count := (ar1.at pi).count + 1 } (by decide) rfl rfl rfl
        rw [List.set_append_left _ _ (by rw [List.length_set]; exact hil), List.set_set] at U5
        have hcnt := HC.out
        rw [hcnt] at c8 U5
        clear hcnt
        have hcast : ((cnt + 1 : Nat) : Int) = (cnt : Int) + 1 := by omega
        rw [hcast] at U5
        obtain ⟨aG, _, cG, _, _, hbG, _, htG, _⟩ := grow_h H4 i (get_left HIA.out.1)
        have hga : g' ≠ a := by
          have e1 := hb4.cell 0
          rw [hbG.cell 0] at e1
          simp at e1
          obtain ⟨rfl, rfl⟩ := e1
          exact (htG g' rfl).1
        have HBW := hb4.other (p := ⟨g', off' + pi * 10 + 8, none⟩) hga (.int .u32 ((cnt : Int) + 1))
        have e8 : { ar1.at pi with count := cnt + 1 } = ({ ar1.at pi with count := cnt + 1 } : Sl) := rfl
        generalize hs2 : ({ ar1.at pi with count := cnt + 1 } : Sl) = s2 at *
        have hs2n : s2.count = cnt + 1 := by rw [← hs2]
        have HS2 := Lib.hid hs2n
        have q1' : pi < (ar1.put pi s2).slots.length := by simp [Ar.put]; exact q1
        have hps2 : (ar1.put pi s2).slots[pi]? = some s2 := by simp [Ar.put, q1]
        have hu2 : (ar1.put pi s2).used = ar.used := q3
        have EQ : Hid (∀ x, ({ (ar1.put pi s2) with slots := (ar1.put pi s2).slots.set pi x } : Ar) = ar1.put pi x) := Lib.hid fun x => by simp [Ar.put, List.set_set]
        have hia2 : (l.set i (areP a (ar1.put pi s2)))[i]? = some (areP a (ar1.put pi s2)) := List.getElem?_set_self hil
        generalize har2 : ar1.put pi s2 = ar2 at *
        have HU := Lib.hid U5
        have HI2 := Lib.hid (And.intro hia2 (And.intro hps2 q1'))
        have hl2 : ar2.slots.length = ar1.slots.length := by rw [← har2]; simp [Ar.put]
        have hnd2 : s2 = { ar1.at pi with count := cnt + 1 } := hs2.symm
        have hagne : a ≠ g' := fun x => hga x.symm
        clear hb4 hb5 hc5 hz5 hu5 U5 H4 hcast e8 hs2n hia2 hps2 q1' hbG htG
        have HS3 := Lib.hid (And.intro hnd2 (And.intro har2 hl2))
        clear hs2 hnd2 har2 hl2
        go_upto_region 10 with fail
        have H6 := HU.out
        generalize wc.setCell ⟨g', off' + pi * 10 + 8, none⟩ (.int .u32 ((cnt : Int) + 1)) = W4 at *
        obtain ⟨g6, off6, cap6, cf6, af6, v6, hb6, hcap6, hc6, hz6, ⟨rp6, rk6, rn6, rw6⟩, _, _⟩ := slot_h H6 i (get_left HI2.out.1) HI2.out.2.1
        obtain ⟨rfl, rfl⟩ : g6 = g' ∧ off6 = off' := by
          have e1 := HBW.cell 0
          rw [hb6.cell 0] at e1
          simp at e1
          exact ⟨e1.1.1, e1.1.2⟩
        obtain ⟨d2, p2, hp2⟩ := rp6.len
        obtain ⟨d3, p3, hp3⟩ := rk6.len
        obtain ⟨d4, p4, hp4⟩ := rn6.len
        obtain ⟨d5, p5, hp5, _, _⟩ := rw6.form
        have s0 := hc6 0 (.bool s2.nd.inner) rfl
        have s1 := hc6 1 (.bool s2.nd.tagged) rfl
        have s3 := hc6 2 v6.p rfl
        have s4 := hc6 3 v6.k rfl
        have s5 := hc6 4 v6.n rfl
        have s6 := hc6 5 v6.w rfl
        have s7 := hc6 6 (.int .i64 s2.info) rfl
        have s8 := hc6 7 (.bool s2.mark) rfl
        have s9 := hc6 8 (.int .u32 s2.count) rfl
        have s10 := hc6 9 (.bool s2.used) rfl
        rw [HS2.out, show ((cnt + 1 : Nat) : Int) = (cnt : Int) + 1 from by omega] at s9
        rw [Nat.add_zero] at s0
        rw [← List.append_assoc] at H6
        have NB := H6.first.blk _ (get_last _ _)
        have n0 : W4.cell? ⟨N, 0, none⟩ = some (.bool nd.inner) := NB.cell 0
        have n1 : W4.cell? ⟨N, 1, none⟩ = some (.bool nd.tagged) := NB.cell 1
        have n2 : W4.cell? ⟨N, 2, none⟩ = some (.slice a1 nd.pairs.length c1) := NB.cell 2
        have n3 : W4.cell? ⟨N, 3, none⟩ = some (.slice a2 nd.keys.length c2) := NB.cell 3
        have n4 : W4.cell? ⟨N, 4, none⟩ = some (.slice a3 nd.ways.length c3) := NB.cell 4
        have R6 := (H6.row (t := 65) (sz := 1) (n := nd.ways.length) (v := .slice a3 nd.ways.length c3) (us := intC nd.ways) ((l.set i (areP a ar2) ++ [blkP N 112 #[.bool nd.inner, .bool nd.tagged, .slice a1 nd.pairs.length c1, .slice a2 nd.keys.length c2, .slice a3 nd.ways.length c3]]).length + 2) (by rw [List.getElem?_append_right (by omega)]; simp [ndL])).rdv
        have HR6 := Lib.hid R6
        have HH6 := Lib.hid H6
        have HBB := Lib.hid HBW
        have HZ6 := Lib.hid hz6
        clear H6 NB R6 HBW hb6 hc6 hz6 hcap6 rp6 rk6 rn6 rw6 HU c8 z8
        refine wp_region_noPanic ?_
        refine AnyK.start (ks := [12]) (S := fun w' => w'.cell? ⟨N, 0, none⟩ = some (.bool nd.inner) ∧ w'.cell? ⟨N, 1, none⟩ = some (.bool nd.tagged) ∧ w'.cell? ⟨N, 2, none⟩ = some (.slice a1 nd.pairs.length c1) ∧ w'.cell? ⟨N, 3, none⟩ = some (.slice a2 nd.keys.length c2) ∧ w'.cell? ⟨N, 4, none⟩ = some (.slice a3 nd.ways.length c3) ∧ w'.cell? ⟨g6, off6 + pi * 10 + 8, none⟩ = some (.int .u32 ((cnt : Int) + 1))) (by kernel_rfl) ⟨n0, n1, n2, n3, n4, s9⟩ (fun hHeld => ?_)
        refine AnyK.take (i := 0) (v := ?_) rfl (by kernel_rfl) (by kernel_rfl) (by kernel_rfl) (by kernel_rfl) (fun _ _ _ h => h) (Or.inl ⟨by rfl, ?_⟩) (by assumption) ?_
        rotate_left
        focus
          intro w9 hSw
          try dsimp only at hSw
          go_simp
          try with_reducible rfl
        try simp only [Act.put, List.setIfInBounds_toArray, List.set_cons_zero, List.set_cons_succ]
        refine AnyK.take (i := 1) (v := ?_) rfl (by kernel_rfl) (by kernel_rfl) (by kernel_rfl) (by kernel_rfl) (fun _ _ _ h => h) (Or.inl ⟨by rfl, ?_⟩) (by assumption) ?_
        rotate_left
        focus
          intro w9 hSw
          try dsimp only at hSw
          go_simp
          try with_reducible rfl
        try simp only [Act.put, List.setIfInBounds_toArray, List.set_cons_zero, List.set_cons_succ]
        refine AnyK.take (i := 2) (v := ?_) rfl (by kernel_rfl) (by kernel_rfl) (by kernel_rfl) (by kernel_rfl) (fun _ _ _ h => h) (Or.inl ⟨by rfl, ?_⟩) (by assumption) ?_
        rotate_left
        focus
          intro w9 hSw
          try dsimp only at hSw
          go_simp
          try with_reducible rfl
        try simp only [Act.put, List.setIfInBounds_toArray, List.set_cons_zero, List.set_cons_succ]
        refine AnyK.take (i := 3) (v := ?_) rfl (by kernel_rfl) (by kernel_rfl) (by kernel_rfl) (by kernel_rfl) (fun _ _ _ h => h) (Or.inl ⟨by rfl, ?_⟩) (by assumption) ?_
        rotate_left
        focus
          intro w9 hSw
          try dsimp only at hSw
          go_simp
          try with_reducible rfl
        try simp only [Act.put, List.setIfInBounds_toArray, List.set_cons_zero, List.set_cons_succ]
        refine AnyK.take (i := 4) (v := ?_) rfl (by kernel_rfl) (by kernel_rfl) (by kernel_rfl) (by kernel_rfl) (fun _ _ _ h => h) (Or.inl ⟨by rfl, ?_⟩) (by assumption) ?_
        rotate_left
        focus
          intro w9 hSw
          try dsimp only at hSw
          go_simp
          try with_reducible rfl
        try simp only [Act.put, List.setIfInBounds_toArray, List.set_cons_zero, List.set_cons_succ]
        refine AnyK.take (i := 6) (v := ?_) rfl (by kernel_rfl) (by kernel_rfl) (by kernel_rfl) (by kernel_rfl) (fun _ _ _ h => h) (Or.inl ⟨by rfl, ?_⟩) (by assumption) ?_
        rotate_left
        focus
          intro w9 hSw
          try dsimp only at hSw
          go_simp
          try with_reducible rfl
        try simp only [Act.put, List.setIfInBounds_toArray, List.set_cons_zero, List.set_cons_succ]
        refine AnyK.take (i := 7) (v := ?_) rfl (by kernel_rfl) (by kernel_rfl) (by kernel_rfl) (by kernel_rfl) (fun _ _ _ h => h) (Or.inl ⟨by rfl, ?_⟩) (by assumption) ?_
        rotate_left
        focus
          intro w9 hSw
          try dsimp only at hSw
          go_simp
          try with_reducible rfl
        try simp only [Act.put, List.setIfInBounds_toArray, List.set_cons_zero, List.set_cons_succ]
        refine AnyK.take (i := 8) (v := ?_) rfl (by kernel_rfl) (by kernel_rfl) (by kernel_rfl) (by kernel_rfl) (fun _ _ _ h => h) (Or.inl ⟨by rfl, ?_⟩) (by assumption) ?_
        rotate_left
        focus
          intro w9 hSw
          try dsimp only at hSw
          go_simp
          try with_reducible rfl
        try simp only [Act.put, List.setIfInBounds_toArray, List.set_cons_zero, List.set_cons_succ]
        refine AnyK.take (i := 9) (v := ?_) rfl (by kernel_rfl) (by kernel_rfl) (by kernel_rfl) (by kernel_rfl) (fun _ _ _ h => h) (Or.inl ⟨by rfl, ?_⟩) (by assumption) ?_
        rotate_left
        focus
          intro w9 hSw
          try dsimp only at hSw
          go_simp
          try with_reducible rfl
        try simp only [Act.put, List.setIfInBounds_toArray, List.set_cons_zero, List.set_cons_succ]
        refine AnyK.one (i := 5) (by kernel_rfl) rfl (fun K hK => ?_)
        go_simp
        go_at_call 76
        refine (Clone_ref _ _ _ _ (HR6.out.fr (Fr.drew (Fr.refl nob W4)) (fun _ _ _ x => x)) HO.out.2.2 E3).mono ?_
        rintro e x9 ⟨a9, c9, rfl, q9, b9, f9⟩
        have F9 := (Fr.drew (Fr.refl nob W4)).trans f9 (fun _ _ x => x)
        have H9 := HH6.out.drew.pushRow f9 q9 b9
        have HB9 := HBB.out.fr F9 (fun x => x)
        have m0 := F9.cell' n0 (fun x => x)
        have m1 := F9.cell' n1 (fun x => x)
        have m2 := F9.cell' n2 (fun x => x)
        have m3 := F9.cell' n3 (fun x => x)
        have m4 := F9.cell' n4 (fun x => x)
        have t0 := F9.cell' s0 (fun x => x)
        have t1 := F9.cell' s1 (fun x => x)
        have t3 := F9.cell' s3 (fun x => x)
        have t4 := F9.cell' s4 (fun x => x)
        have t5 := F9.cell' s5 (fun x => x)
        have t6 := F9.cell' s6 (fun x => x)
        have t7 := F9.cell' s7 (fun x => x)
        have t8 := F9.cell' s8 (fun x => x)
        have t9 := F9.cell' s9 (fun x => x)
        have t10 := F9.cell' s10 (fun x => x)
        have z0 := F9.froz' s0 (HZ6.out _) (fun x => x)
        have z1 := F9.froz' s1 (HZ6.out _) (fun x => x)
        have z3 := F9.froz' s3 (HZ6.out _) (fun x => x)
        have z4 := F9.froz' s4 (HZ6.out _) (fun x => x)
        have z5 := F9.froz' s5 (HZ6.out _) (fun x => x)
        have z6 := F9.froz' s6 (HZ6.out _) (fun x => x)
        have z7 := F9.froz' s7 (HZ6.out _) (fun x => x)
        have z8 := F9.froz' s8 (HZ6.out _) (fun x => x)
        have z9 := F9.froz' s9 (HZ6.out _) (fun x => x)
        have z10 := F9.froz' s10 (HZ6.out _) (fun x => x)
        refine hK.out _ _ (fun _ => ⟨m0, m1, m2, m3, m4, t9⟩) ?_
        clear hK K
        try simp only [Act.put, List.setIfInBounds_toArray, List.set_cons_zero, List.set_cons_succ]
        have hS9 := And.intro m0 (And.intro m1 (And.intro m2 (And.intro m3 (And.intro m4 t9))))
        have HH9 := Lib.hid H9
        have HBX := Lib.hid HB9
        clear H9 HB9 q9 b9 f9 F9 s0 s1 s3 s4 s5 s6 s7 s8 s9 s10 n0 n1 n2 n3 n4
        refine AnyK.take (i := 10) (v := ?_) rfl (by kernel_rfl) (by kernel_rfl) (by kernel_rfl) (by kernel_rfl) (fun _ _ _ h => h) (Or.inl ⟨by rfl, ?_⟩) (by exact hS9) ?_
        rotate_left
        focus
          intro w9 hSw
          try dsimp only at hSw
          go_simp
          try with_reducible rfl
        try simp only [Act.put, List.setIfInBounds_toArray, List.set_cons_zero, List.set_cons_succ]
        refine AnyK.take (i := 11) (v := ?_) rfl (by kernel_rfl) (by kernel_rfl) (by kernel_rfl) (by kernel_rfl) (fun _ _ _ h => h) (Or.inl ⟨by rfl, ?_⟩) (by exact hS9) ?_
        rotate_left
        focus
          intro w9 hSw
          try dsimp only at hSw
          go_simp
          try with_reducible rfl
        try simp only [Act.put, List.setIfInBounds_toArray, List.set_cons_zero, List.set_cons_succ]
        refine AnyK.one (i := 12) (by kernel_rfl) rfl (fun K hK => ?_)
        go_simp
        refine hK.out _ _ (fun h => absurd (by decide) h) ?_
        clear hK K
        try simp only [Act.put, List.setIfInBounds_toArray, List.set_cons_zero, List.set_cons_succ]
        refine AnyK.done (by kernel_rfl) ?_ _
        refine NoPanic.normal ?_
        go_upto_region 11 with fail
        have hcast : ((cnt + 1 : Nat) : Int) = (cnt : Int) + 1 := by omega
        have H10 := fill_h (s' := newSl nd (cnt + 1)) (nd := nd) (vp := .slice a1 nd.pairs.length c1) (vk := .slice a2 nd.keys.length c2) (vn := .slice a3 nd.ways.length c3) (vw := .slice a9 nd.ways.length c9) i HI2.out.1 HI2.out.2.2 rfl rfl (Heap.mid (m := [blkP N 112 #[.bool nd.inner, .bool nd.tagged, .slice a1 nd.pairs.length c1, .slice a2 nd.keys.length c2, .slice a3 nd.ways.length c3]]) (by rw [← List.append_assoc]; exact HH9.out)) (by rw [HS3.out.2.2]; exact HBX.out)
        rw [List.set_set, EQ.out] at H10
        have HB10 := HBX.out.of_eq (setCells_other (slotC (newSl nd (cnt + 1)) ⟨.slice a1 nd.pairs.length c1, .slice a2 nd.keys.length c2, .slice a3 nd.ways.length c3, .slice a9 nd.ways.length c9⟩) x9 (off6 + pi * 10) a hagne)
        have KK := Lib.hid (And.intro hcast (And.intro H10 HB10))
        clear t0 t1 t3 t4 t5 t6 t7 t8 t9 t10 z0 z1 z3 z4 z5 z6 z7 z8 z9 z10 m0 m1 m2 m3 m4 hS9 hcast H10 HB10 HH9 HBX HBB HH6 HR6 HZ6
        refine wp_seal (fun W => Heap w0 W (l.set i (areP a (ar1.put pi (newSl nd (cnt + 1))))) ∧ Blk W a 122 #[.slice (some ⟨g6, off6, none⟩) ar1.slots.length cap, .slice af3 ar1.free.length cf3, .int .i64 ar1.most, .int .i64 ar1.used, .int .i64 ar1.faults]) KK.out.2 ?_
        rintro W9 ⟨H11, HB11⟩
        have hia9 : (l.set i (areP a (ar1.put pi (newSl nd (cnt + 1)))))[i]? = some (areP a (ar1.put pi (newSl nd (cnt + 1)))) := List.getElem?_set_self hil
        obtain ⟨g9, off9, cap9, cf9, af9, v9, hb9, _, hc9, _, _, _, _⟩ := slot_h H11 i hia9 (p := pi) (s := newSl nd (cnt + 1)) (by simp [Ar.put, q1])
        obtain ⟨rfl, rfl⟩ : g9 = g6 ∧ off9 = off6 := by
          have e1 := HB11.cell 0
          rw [hb9.cell 0] at e1
          simp at e1
          exact ⟨e1.1.1, e1.1.2⟩
        have c8 := hc9 8 (.int .u32 ((cnt + 1 : Nat) : Int)) rfl
        rw [KK.out.1] at c8
        obtain ⟨k3, z3, U9⟩ := used_h H11 i hia9 (ar.used + 1)
        have k4 : W9.cell? ⟨a, 3, none⟩ = some (.int .i64 ar.used) := by rw [← q3]; exact k3
        rw [List.set_set] at U9
        have FIN := Lib.hid U9
        have HOF := Lib.hid (fun w => Of_calls pi ((cnt : Int) + 1) w (by omega) (by omega))
        clear k3 U9 H11 HB11 hia9 hb9 hc9
        go_wp2_with (go_at_call 77; refine (HOF.out _).mono ?_; rintro e w' ⟨rfl, hw⟩; have hw := hw.symm; subst hw)
        go_ret2
        refine ⟨?_, FIN.out⟩
        show Ending.returned (.tuple #[.int .i64 (refOf pi ((cnt : Int) + 1)), .bool true]) = _
        rw [KK.out.1]
end
end Go.Proofs.Ytkbnoceekileiaa
namespace Go.Proofs.Ytkbnoceekileiaa
open Go Go.RowKit
set_option maxRecDepth 100000
set_option linter.unusedVariables false
set_option linter.unusedSimpArgs false
/-- All numbers of an arena are N at most. -/
structure OkN (ar : Ar) (N : Nat) : Prop where
  most : 0 ≤ ar.most ∧ ar.most ≤ 65536
  used : -(N : Int) ≤ ar.used ∧ ar.used ≤ N
  few : ar.slots.length ≤ N
  cnt : ∀ s ∈ ar.slots, s.count ≤ N ∧ s.nd.few
  faults : 0 ≤ ar.faults ∧ ar.faults ≤ N
  free : ∀ i ∈ ar.free, i < ar.slots.length
  frees : ar.free.length ≤ N
theorem OkN.ok {ar : Ar} {N : Nat} (h : OkN ar N) (hN : N ≤ 60000) : OkAr ar :=
  ⟨h.most, ⟨by have := h.used.1; omega, by have := h.used.2; omega⟩, by have := h.few; omega, fun s hs => by have := (h.cnt s hs).1; omega, ⟨h.faults.1, by have := h.faults.2; omega⟩, h.free, by have := h.frees; omega⟩
theorem OkN.more {ar : Ar} {N : Nat} (h : OkN ar N) (hN : N ≤ 60000) : MoreAr ar :=
  ⟨h.ok hN, by have := h.few; omega, fun s hs => by have := (h.cnt s hs).1; omega, by have := h.frees; omega⟩
theorem OkN.up {ar : Ar} {N M : Nat} (h : OkN ar N) (hN : N ≤ M) : OkN ar M :=
  ⟨h.most, ⟨by have := h.used.1; omega, by have := h.used.2; omega⟩, by have := h.few; omega, fun s hs => ⟨by have := (h.cnt s hs).1; omega, (h.cnt s hs).2⟩, ⟨h.faults.1, by have := h.faults.2; omega⟩, h.free, by have := h.frees; omega⟩
theorem OkN.nds {ar : Ar} {N : Nat} (h : OkN ar N) : ∀ s ∈ ar.slots, s.nd.few := fun s hs => (h.cnt s hs).2
theorem noNd_few : noNd.few := ⟨by simp [noNd], by simp [noNd], by simp [noNd]⟩
theorem OkN.new (n : Int) : OkN (newAr n) 0 := by
  refine ⟨?_, by simp [newAr], by simp [newAr], fun s hs => by simp [newAr] at hs, by simp [newAr], fun i hi => by simp [newAr] at hi, by simp [newAr]⟩
  simp only [newAr, limAr]; omega
theorem OkN.fault {ar : Ar} {N : Nat} (h : OkN ar N) : OkN ar.fault (N + 1) := by
  have u := h.up (Nat.le_succ N)
  refine ⟨u.most, u.used, u.few, u.cnt, ?_, u.free, u.frees⟩
  have := h.faults
  simp only [Ar.fault]; omega
theorem OkN.put {ar : Ar} {N : Nat} (h : OkN ar N) (p : Nat) (s : Sl) (hs : s.count ≤ N ∧ s.nd.few) : OkN (ar.put p s) N := by
  refine ⟨h.most, h.used, by simp [Ar.put]; exact h.few, fun x hx => ?_, h.faults, fun i hi => by simp [Ar.put]; exact h.free i hi, h.frees⟩
  rcases List.mem_or_eq_of_mem_set hx with hx | rfl
  · exact h.cnt x hx
  · exact hs
theorem OkN.at {ar : Ar} {N : Nat} (h : OkN ar N) {p : Nat} (hp : p < ar.slots.length) : (ar.at p).count ≤ N ∧ (ar.at p).nd.few := by
  have : ar.at p ∈ ar.slots := by simp [Ar.at, List.getD, List.getElem?_eq_getElem hp]
  exact h.cnt _ this
theorem OkN.prep {ar : Ar} {N : Nat} (h : OkN ar N) : OkN (prepAr ar).2 (N + 1) ∧ (prepAr ar).1 < (prepAr ar).2.slots.length ∧ ((prepAr ar).2.at (prepAr ar).1).count ≤ N ∧ (prepAr ar).2.used = ar.used := by
  have u := h.up (Nat.le_succ N)
  unfold prepAr
  cases hf : ar.free with
  | nil =>
    refine ⟨⟨u.most, u.used, by have := h.few; simp; omega, fun s hs => ?_, u.faults, fun i hi => by simp [hf] at hi, by simp [hf]⟩, by simp, by simp [Ar.at, List.getD, noSl], rfl⟩
    simp only [List.mem_append, List.mem_singleton] at hs
    rcases hs with hs | rfl
    · exact u.cnt s hs
    · exact ⟨Nat.zero_le _, noNd_few⟩
  | cons i r =>
    have hi := h.free i (by rw [hf]; exact List.mem_cons_self)
    refine ⟨⟨u.most, u.used, u.few, u.cnt, u.faults, fun j hj => h.free j (by rw [hf]; exact List.mem_cons_of_mem _ hj), by have := u.frees; rw [hf] at this; simp at this ⊢; omega⟩, hi, (h.at hi).1, rfl⟩
theorem OkN.alloc {ar : Ar} {N : Nat} (h : OkN ar N) (nd : Nd) (hnd : nd.few) : OkN (allocAr nd ar).2 (N + 1) := by
  unfold allocAr
  split
  · exact h.up (Nat.le_succ N)
  · obtain ⟨p1, p2, p3, p4⟩ := h.prep
    have q := p1.put (prepAr ar).1 (newSl nd (((prepAr ar).2.at (prepAr ar).1).count + 1)) ⟨by simp [newSl]; omega, hnd⟩
    refine ⟨q.most, ?_, q.few, q.cnt, q.faults, q.free, q.frees⟩
    have := h.used
    simp only
    omega
theorem OkN.freed {ar : Ar} {N : Nat} (h : OkN ar N) (r : Int) : OkN (freeAr r ar).2 (N + 1) := by
  unfold freeAr
  cases hr : arAt ar r with
  | none => exact h.fault
  | some p =>
    have hp : p < ar.slots.length := (List.getElem?_eq_some_iff.1 (at_get hr)).1
    have q := (h.up (Nat.le_succ N)).put p { ar.at p with used := false } ⟨by have := (h.at hp).1; show (ar.at p).count ≤ _; omega, (h.at hp).2⟩
    refine ⟨q.most, ?_, q.few, q.cnt, q.faults, fun i hi => ?_, ?_⟩
    · have := h.used
      simp only
      omega
    · simp only [List.mem_append, List.mem_singleton] at hi
      simp only [Ar.put, List.length_set]
      rcases hi with hi | rfl
      · exact h.free i hi
      · exact hp
    · have := h.frees
      simp; omega
theorem RdV_nil (w : World) (sz : Nat) : RdV w nilS 0 sz [] := ⟨by simp, by simp, .inl ⟨rfl, rfl⟩⟩
section
variable {w0 w : World} {l : List Piece} {a : Nat} {ar : Ar}
/-- A node of no entries. -/
theorem AllocNo_h (h : Heap w0 w l) (i : Nat) (hi : l[i]? = some (areP a ar)) (ok : MoreAr ar) (b t : Bool) :
    Calls Try.prog 53 #[.pointer (some ⟨a, 0, none⟩), .agg #[.bool b, .bool t, .slice none 0 0, .slice none 0 0, .slice none 0 0]] w fun e w' => e = .returned (.tuple #[.int .i64 (allocAr ⟨b, t, [], [], []⟩ ar).1.1, .bool (allocAr ⟨b, t, [], [], []⟩ ar).1.2]) ∧ Heap w0 w' (l.set i (areP a (allocAr ⟨b, t, [], [], []⟩ ar).2)) :=
  Alloc_h h i hi ok ⟨b, t, [], [], []⟩ ⟨Nat.zero_le _, Nat.zero_le _, Nat.zero_le _⟩ nilS nilS nilS (fun x q _ => ⟨RdV_nil x 2, RdV_nil x 1, RdV_nil x 1⟩)
end
/-- What an arena of no free places makes next. -/
theorem alloc_next {ar : Ar} (nd : Nd) (h : ¬ ar.most ≤ ar.used) (hf : ar.free = []) : allocAr nd ar = ((refOf ar.slots.length 1, true), { ar with slots := ar.slots ++ [newSl nd 1], used := ar.used + 1 }) := by
  unfold allocAr prepAr
  rw [if_neg h, hf]
  simp [Ar.at, Ar.put, List.getD, noSl]
theorem alloc_full {ar : Ar} (nd : Nd) (h : ar.most ≤ ar.used) : allocAr nd ar = ((0, false), ar) := by unfold allocAr; rw [if_pos h]
end Go.Proofs.Ytkbnoceekileiaa
