/- Words that all walks of this seat use: what a call may change (Fr), slices of whole numbers that can be read (Rd), owned rows. No condition. -/
import Derived.WalkKit
import Derived.WalkSpells
import Derived.WalkLawsBesides
import Derived.BigQuiet
import Derived.Deep.QuietTactic
import Derived.Deep.RegionHeld3
import Derived.Deep.AppendLies
import Derived.Lib.SliceRun
import Derived.Lib.Hide
namespace Go.Proofs.Ytblijgdmfohfcaa
open Go Go.RowKit
set_option linter.unusedVariables false
set_option linter.unusedSimpArgs false

/-- Of w's blocks at most those in S have changed; the streams are as they were. -/
structure Fr (S : Nat → Prop) (w w' : World) : Prop where
  os : w'.os = w.os
  tape : w'.tape = w.tape
  output : w'.output = w.output
  size : w.heap.size ≤ w'.heap.size
  block : ∀ k, k < w.heap.size → ¬ S k → w'.heap[k]? = w.heap[k]?

/-- No block at all. -/
def nob : Nat → Prop := fun _ => False
/-- S, and what was made between w and w'. -/
def wide (S : Nat → Prop) (w w' : World) : Nat → Prop := fun k => S k ∨ (w.heap.size ≤ k ∧ k < w'.heap.size)

theorem Fr.refl (S : Nat → Prop) (w : World) : Fr S w w := ⟨rfl, rfl, rfl, Nat.le_refl _, fun _ _ _ => rfl⟩
theorem Fr.mono {S S' : Nat → Prop} {w w' : World} (h : Fr S w w') (hs : ∀ k, k < w.heap.size → S k → S' k) : Fr S' w w' :=
  ⟨h.os, h.tape, h.output, h.size, fun k hk hn => h.block k hk (fun x => hn (hs k hk x))⟩
/-- One behind the other; the second may change what the first made. -/
theorem Fr.trans {S S' : Nat → Prop} {a b c : World} (h : Fr S a b) (k : Fr S' b c) (hs : ∀ i, i < a.heap.size → S' i → S i) : Fr S a c :=
  ⟨k.os.trans h.os, k.tape.trans h.tape, k.output.trans h.output, Nat.le_trans h.size k.size,
   fun i hi hn => (k.block i (Nat.lt_of_lt_of_le hi h.size) (fun x => hn (hs i hi x))).trans (h.block i hi hn)⟩
theorem Fr.drew {S : Nat → Prop} {a w : World} (h : Fr S a w) : Fr S a w.drew := ⟨h.os, h.tape, h.output, h.size, h.block⟩
theorem Fr.undrew {S : Nat → Prop} {w w' : World} (h : Fr S w.drew w') : Fr S w w' := ⟨h.os, h.tape, h.output, h.size, h.block⟩
theorem Fr.drewN {S : Nat → Prop} {a w : World} (h : Fr S a w) (n : Nat) : Fr S a (w.drewN n) := ⟨h.os, h.tape, h.output, h.size, h.block⟩
theorem Fr.alloc {S : Nat → Prop} {a w : World} (h : Fr S a w) (o : Obj) : Fr S a (w.alloc o) :=
  h.trans (S' := S) ⟨rfl, rfl, rfl, by simp, fun k hk _ => Below.heap_alloc _ _ _ hk⟩ (fun _ _ x => x)
theorem Fr.setCell {S : Nat → Prop} {a w : World} (h : Fr S a w) {p : Addr} (hp : S p.block ∨ a.heap.size ≤ p.block) (u : Value) : Fr S a (w.setCell p u) := by
  refine ⟨h.os, h.tape, h.output, by simpa [World.setCell] using h.size, fun k hk hn => ?_⟩
  rw [Below.heap_setCell _ _ _ _ ?_]
  · exact h.block k hk hn
  · rintro rfl
    rcases hp with hp | hp
    · exact hn hp
    · omega
theorem Fr.grown {S : Nat → Prop} {a w w' : World} {row : Option Nat} (h : Fr S a w) (hg : w.grownBy w' row) (hr : ∀ k, row = some k → S k ∨ a.heap.size ≤ k) : Fr S a w' := by
  refine ⟨hg.os.trans h.os, hg.tape.trans h.tape, hg.output.trans h.output, Nat.le_trans h.size hg.size, fun k hk hn => ?_⟩
  rw [hg.block k (Nat.lt_of_lt_of_le hk h.size) ?_]
  · exact h.block k hk hn
  · intro e
    rcases hr k e.symm with x | x
    · exact hn x
    · omega
theorem Fr.of_below {B : Nat} {w w' : World} (h : Below B w w') : Fr (fun k => B ≤ k) w w' := ⟨h.os, h.tape, h.output, h.size, fun k _ hn => h.block k (by omega)⟩
theorem Fr.below {B : Nat} {S : Nat → Prop} {w w' : World} (h : Fr S w w') (hB : B ≤ w.heap.size) (hs : ∀ k, S k → B ≤ k) : Below B w w' :=
  ⟨h.os, h.tape, h.output, h.size, fun k hk => h.block k (by omega) (fun x => by have := hs k x; omega)⟩
theorem Fr.grownBy {w w' : World} (h : Fr nob w w') : w.grownBy w' none := ⟨h.os, h.tape, h.output, h.size, fun k hk _ => h.block k hk (fun x => x)⟩
theorem Fr.of_grown {w w' : World} (h : w.grownBy w' none) : Fr nob w w' := ⟨h.os, h.tape, h.output, h.size, fun k hk _ => h.block k hk (by simp)⟩
theorem Fr.cell {S : Nat → Prop} {w w' : World} (h : Fr S w w') {a : Addr} (hl : a.block < w.heap.size) (hn : ¬ S a.block) : w'.cell? a = w.cell? a := World.cell?_of_block (h.block _ hl hn)
theorem Fr.froz' {S : Nat → Prop} {w w' : World} (h : Fr S w w') {a : Addr} {v : Value} (hc : w.cell? a = some v) (hf : w.frozen? a = false) (hn : ¬ S a.block) : w'.frozen? a = false := by
  rw [← hf]; exact World.frozen?_of_block (h.block _ (World.block_lt_of_cell? w _ hc) hn)
theorem cell_lt {w : World} {a : Addr} {v : Value} (h : w.cell? a = some v) : a.block < w.heap.size := World.block_lt_of_cell? w _ h
theorem Fr.cell' {S : Nat → Prop} {w w' : World} (h : Fr S w w') {a : Addr} {v : Value} (hc : w.cell? a = some v) (hn : ¬ S a.block) : w'.cell? a = some v := by
  rw [h.cell (cell_lt hc) hn]; exact hc
theorem Fr.froz {S : Nat → Prop} {w w' : World} (h : Fr S w w') {a : Addr} (hl : a.block < w.heap.size) (hn : ¬ S a.block) : w'.frozen? a = w.frozen? a := World.frozen?_of_block (h.block _ hl hn)

/-- A block known whole, not frozen. -/
def Blk (w : World) (b : Nat) (t : TypeId) (c : Array Value) : Prop := w.heap[b]? = some (.cells c t (0, 0))
theorem Blk.lt {w : World} {b : Nat} {t : TypeId} {c : Array Value} (h : Blk w b t c) : b < w.heap.size := by
  rcases Nat.lt_or_ge b w.heap.size with x | x
  · exact x
  · unfold Blk at h; rw [Array.getElem?_eq_none x] at h; cases h
theorem Blk.cell {w : World} {b : Nat} {t : TypeId} {c : Array Value} (h : Blk w b t c) (o : Nat) : w.cell? ⟨b, o, none⟩ = c[o]? := by
  unfold Blk at h; simp [World.cell?, h]
theorem Blk.froz {w : World} {b : Nat} {t : TypeId} {c : Array Value} (h : Blk w b t c) (o : Nat) : w.frozen? ⟨b, o, none⟩ = false := by
  unfold Blk at h; simp [World.frozen?, h]
theorem Blk.of_eq {w w' : World} {b : Nat} {t : TypeId} {c : Array Value} (h : Blk w b t c) (e : w'.heap[b]? = w.heap[b]?) : Blk w' b t c := by
  unfold Blk at h ⊢; rw [e]; exact h
theorem Blk.fr {S : Nat → Prop} {w w' : World} {b : Nat} {t : TypeId} {c : Array Value} (h : Blk w b t c) (hf : Fr S w w') (hn : ¬ S b) : Blk w' b t c := h.of_eq (hf.block b h.lt hn)
theorem Blk.alloc {w : World} {b : Nat} {t : TypeId} {c : Array Value} (h : Blk w b t c) (o : Obj) : Blk (w.alloc o) b t c := h.of_eq (Below.heap_alloc _ _ _ h.lt)
theorem Blk.drew {w : World} {b : Nat} {t : TypeId} {c : Array Value} (h : Blk w b t c) : Blk w.drew b t c := h
theorem Blk.drewN {w : World} {b : Nat} {t : TypeId} {c : Array Value} (h : Blk w b t c) (n : Nat) : Blk (w.drewN n) b t c := h
theorem Blk.new (w : World) (t : TypeId) (c : Array Value) : Blk (w.alloc (.cells c t)) w.heap.size t c := heap_alloc_new w _
theorem Blk.new' {w : World} {H : Nat} (h : w.heap.size = H) (t : TypeId) (c : Array Value) : Blk (w.alloc (.cells c t)) H t c := by subst h; exact Blk.new _ _ _
theorem Blk.grown {w w' : World} {row : Option Nat} {b : Nat} {t : TypeId} {c : Array Value} (h : Blk w b t c) (hg : w.grownBy w' row) (hn : row ≠ some b) : Blk w' b t c :=
  h.of_eq (hg.block b h.lt (fun e => hn e.symm))
theorem Blk.other {w : World} {b : Nat} {t : TypeId} {c : Array Value} (h : Blk w b t c) {p : Addr} (hn : p.block ≠ b) (u : Value) : Blk (w.setCell p u) b t c :=
  h.of_eq (Below.heap_setCell _ _ _ _ (fun e => hn e.symm))
theorem Blk.set {w : World} {b : Nat} {t : TypeId} {c : Array Value} (h : Blk w b t c) (o : Nat) (u : Value) : Blk (w.setCell ⟨b, o, none⟩ u) b t (c.setIfInBounds o u) := by
  unfold Blk at h ⊢
  simp [World.setCell, Array.getElem?_modify, h]
theorem Blk.six {w : World} {b : Nat} {t : TypeId} {x0 x1 x2 x3 x4 x5 : Value} (h : Blk w b t #[x0, x1, x2, x3, x4, x5]) :
    w.cell? ⟨b, 0, none⟩ = some x0 ∧ w.cell? ⟨b, 1, none⟩ = some x1 ∧ w.cell? ⟨b, 2, none⟩ = some x2 ∧ w.cell? ⟨b, 3, none⟩ = some x3 ∧ w.cell? ⟨b, 4, none⟩ = some x4 ∧ w.cell? ⟨b, 5, none⟩ = some x5 :=
  ⟨h.cell 0, h.cell 1, h.cell 2, h.cell 3, h.cell 4, h.cell 5⟩
/-- Two blocks of different types are two. -/
theorem Blk.ne {w : World} {b b' : Nat} {t t' : TypeId} {c c' : Array Value} (h : Blk w b t c) (h' : Blk w b' t' c') (hn : t ≠ t') : b ≠ b' := by
  rintro rfl
  unfold Blk at h h'
  rw [h] at h'
  simp at h'
  exact hn h'.2

/-- A slice of whole numbers that can be read. -/
def Rd (w : World) (v : Value) (xs : List Int) : Prop :=
  (v = .slice none 0 0 ∧ xs = []) ∨ ∃ a c, v = .slice (some a) xs.length c ∧ xs.length ≤ c ∧ xs.length * 8 ≤ 140737488355328 ∧ (∀ j, j < xs.length → w.cell? (a.add j) = some (.int .i64 (xs.getD j 0)))
/-- A row of whole numbers, not frozen, from block B on. -/
abbrev Row (w : World) (B : Nat) (t : TypeId) (v : Value) (xs : List Int) : Prop := w.ownsRow B t 1 v xs.length (xs.map (Value.int .i64))

theorem add_lit (g j : Nat) : (⟨g, 0, none⟩ : Addr).add j = ⟨g, j, none⟩ := by unfold Addr.add; split <;> simp_all
theorem row_cells {w : World} {B : Nat} {t : TypeId} {v : Value} {n : Nat} {us : List Value} (h : w.ownsRow B t 1 v n us) : v = .slice none 0 0 ∧ n = 0 ∧ us = [] ∨
    ∃ g cap cur, v = .slice (some ⟨g, 0, none⟩) n cap ∧ B ≤ g ∧ Blk w g t cur ∧ n ≤ cap ∧ cap ≤ maxLen ∧ cur.size = cap ∧ us.length = n ∧ ∀ j, j < n → cur[j]? = us[j]? := by
  obtain ⟨h1, h2⟩ := h
  rcases h2 with ⟨rfl, h2⟩ | ⟨g, cap, cur, hv, hb, hh, hc, hm, hs, ht⟩
  · left; subst h2; exact ⟨rfl, rfl, List.eq_nil_of_length_eq_zero (by simpa using h1)⟩
  · right
    refine ⟨g, cap, cur, hv, hb, hh, hc, hm, by simpa using hs, by simpa using h1, fun j hj => ?_⟩
    rw [← ht, List.getElem?_take, if_pos (by omega), Array.getElem?_toList]
theorem Row.rd {w : World} {B : Nat} {t : TypeId} {v : Value} {xs : List Int} (h : Row w B t v xs) (hl : xs.length * 8 ≤ 140737488355328) : Rd w v xs := by
  rcases row_cells h with ⟨rfl, h0, _⟩ | ⟨g, cap, cur, hv, _, hb, hc, _, _, _, hj⟩
  · exact .inl ⟨rfl, List.eq_nil_of_length_eq_zero h0⟩
  · refine .inr ⟨⟨g, 0, none⟩, cap, hv, hc, hl, fun j hlt => ?_⟩
    rw [add_lit, hb.cell, hj j hlt]
    simp [hlt, List.getD]
theorem Rd.fr {S : Nat → Prop} {w w' : World} {v : Value} {xs : List Int} (h : Rd w v xs) (hf : Fr S w w') (hn : ∀ g, v.ownBlock = some g → g < w.heap.size → ¬ S g) : Rd w' v xs := by
  rcases h with h | ⟨a, c, rfl, h1, h2, h3⟩
  · exact .inl h
  · refine .inr ⟨a, c, rfl, h1, h2, fun j hj => ?_⟩
    have hb : (a.add j).block = a.block := by unfold Addr.add; split <;> rfl
    exact hf.cell' (h3 j hj) (by rw [hb]; exact hn a.block rfl (by have := cell_lt (h3 j hj); rwa [hb] at this))
theorem Rd.nil {w : World} : Rd w (.slice none 0 0) [] := .inl ⟨rfl, rfl⟩
theorem Rd.len {w : World} {v : Value} {xs : List Int} (h : Rd w v xs) : ∃ a c, v = .slice a xs.length c := by
  rcases h with ⟨rfl, rfl⟩ | ⟨a, c, rfl, _⟩
  · exact ⟨none, 0, rfl⟩
  · exact ⟨some a, c, rfl⟩
theorem Rd.short {w : World} {v : Value} {xs : List Int} (h : Rd w v xs) : xs.length * 8 ≤ 140737488355328 := by
  rcases h with ⟨_, rfl⟩ | ⟨a, c, _, _, h, _⟩
  · simp
  · exact h
theorem ownsRow_fr {S : Nat → Prop} {w w' : World} {B : Nat} {t : TypeId} {sz : Nat} {v : Value} {n : Nat} {us : List Value} (h : w.ownsRow B t sz v n us) (hf : Fr S w w') (hn : ∀ g, v.ownBlock = some g → ¬ S g) : w'.ownsRow B t sz v n us := by
  refine ⟨h.1, ?_⟩
  rcases h.2 with x | ⟨g, cap, cur, rfl, hb, hg, r⟩
  · exact .inl x
  · refine .inr ⟨g, cap, cur, rfl, hb, ?_, r⟩
    have hl : g < w.heap.size := Blk.lt (t := t) (c := cur) hg
    rw [hf.block g hl (hn g rfl)]; exact hg
theorem ownsRow_base {w : World} {B B' : Nat} {t : TypeId} {sz : Nat} {v : Value} {n : Nat} {us : List Value} (h : w.ownsRow B t sz v n us) (hB : B' ≤ B) : w.ownsRow B' t sz v n us := by
  refine ⟨h.1, ?_⟩
  rcases h.2 with x | ⟨g, cap, cur, hv, hb, r⟩
  · exact .inl x
  · exact .inr ⟨g, cap, cur, hv, Nat.le_trans hB hb, r⟩
/-- Where an owned row lies. -/
theorem ownsRow_block {w : World} {B : Nat} {t : TypeId} {sz : Nat} {v : Value} {n : Nat} {us : List Value} (h : w.ownsRow B t sz v n us) {g : Nat} (hg : v.ownBlock = some g) : B ≤ g ∧ ∃ c, Blk w g t c := by
  rcases h.2 with ⟨rfl, _⟩ | ⟨g', cap, cur, rfl, hb, hh, _⟩
  · simp [Value.ownBlock] at hg
  · simp [Value.ownBlock] at hg
    subst hg
    exact ⟨hb, cur, hh⟩
theorem ret_bool {a b : Bool} (h : a = b) : Ending.returned (.bool a) = Ending.returned (.bool b) := by rw [h]
theorem ret_int {k : IntKind} {a b : Int} (h : a = b) : Ending.returned (.int k a) = Ending.returned (.int k b) := by rw [h]
/-- The walk goes on from whatever world of which F is known. -/
theorem wp_seal {P : Program} {c : Code} {Q : Exit → Act → World → Prop} {a : Act} {w : World} (F : World → Prop) (hf : F w) (h : ∀ W, F W → c.wp P Q a W) : c.wp P Q a w := h w hf
end Go.Proofs.Ytblijgdmfohfcaa
