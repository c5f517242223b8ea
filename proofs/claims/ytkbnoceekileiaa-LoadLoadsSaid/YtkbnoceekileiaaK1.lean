/- Words that all walks use: frames, pieces of memory, slices, appends, drawn regions, work that asks. No condition. -/
import Derived.WalkKit
import Derived.WalkSpells
import Derived.WalkLawsBesides
import Derived.BigQuiet
import Derived.Deep.QuietTactic
import Derived.Deep.RegionHeld3
import Derived.Deep.AppendLies
import Derived.Lib.SliceRun
import Derived.Lib.Hide
import Derived.ArgAppend
import Derived.Deep.RegionLaw
import Derived.Lib.SmallJoins
import Derived.ProofKit
import Derived.OpenShut
import Derived.SizedLaws
import Derived.Deep.Slices
import Derived.Deep.Fields
import Derived.ChangeSame
import Derived.Deep.Upon
import Derived.OrdersHeld
import Derived.RegionTactic
import Derived.KernelRfl
namespace Go.Proofs.Ytkbnoceekileiaa
open Go Go.RowKit
set_option linter.unusedVariables false
set_option linter.unusedSimpArgs false

/-- Of w's blocks at most those in S have changed; the streams are as they were. -/
structure Fr (S : Nat → Prop) (w w' : World) : Prop where
  os : w'.os = w.os
  tape : w'.tape = w.tape
  output : w'.output = w.output
  size : w.heap.size ≤ w'.heap.size
  block : ∀ k, k < w.heap.size → ¬ S k → w'.heap[k]? = w.heap[k]?

/-- No block at all. -/
def nob : Nat → Prop := fun _ => False
/-- S, and what was made between w and w'. -/
def wide (S : Nat → Prop) (w w' : World) : Nat → Prop := fun k => S k ∨ (w.heap.size ≤ k ∧ k < w'.heap.size)

theorem Fr.refl (S : Nat → Prop) (w : World) : Fr S w w := ⟨rfl, rfl, rfl, Nat.le_refl _, fun _ _ _ => rfl⟩
theorem Fr.mono {S S' : Nat → Prop} {w w' : World} (h : Fr S w w') (hs : ∀ k, k < w.heap.size → S k → S' k) : Fr S' w w' :=
  ⟨h.os, h.tape, h.output, h.size, fun k hk hn => h.block k hk (fun x => hn (hs k hk x))⟩
/-- One behind the other; the second may change what the first made. -/
theorem Fr.trans {S S' : Nat → Prop} {a b c : World} (h : Fr S a b) (k : Fr S' b c) (hs : ∀ i, i < a.heap.size → S' i → S i) : Fr S a c :=
  ⟨k.os.trans h.os, k.tape.trans h.tape, k.output.trans h.output, Nat.le_trans h.size k.size,
   fun i hi hn => (k.block i (Nat.lt_of_lt_of_le hi h.size) (fun x => hn (hs i hi x))).trans (h.block i hi hn)⟩
theorem Fr.drew {S : Nat → Prop} {a w : World} (h : Fr S a w) : Fr S a w.drew := ⟨h.os, h.tape, h.output, h.size, h.block⟩
theorem Fr.undrew {S : Nat → Prop} {w w' : World} (h : Fr S w.drew w') : Fr S w w' := ⟨h.os, h.tape, h.output, h.size, h.block⟩
theorem Fr.drewN {S : Nat → Prop} {a w : World} (h : Fr S a w) (n : Nat) : Fr S a (w.drewN n) := ⟨h.os, h.tape, h.output, h.size, h.block⟩
theorem Fr.alloc {S : Nat → Prop} {a w : World} (h : Fr S a w) (o : Obj) : Fr S a (w.alloc o) :=
  h.trans (S' := S) ⟨rfl, rfl, rfl, by simp, fun k hk _ => Below.heap_alloc _ _ _ hk⟩ (fun _ _ x => x)
theorem Fr.setCell {S : Nat → Prop} {a w : World} (h : Fr S a w) {p : Addr} (hp : S p.block ∨ a.heap.size ≤ p.block) (u : Value) : Fr S a (w.setCell p u) := by
  refine ⟨h.os, h.tape, h.output, by simpa [World.setCell] using h.size, fun k hk hn => ?_⟩
  rw [Below.heap_setCell _ _ _ _ ?_]
  · exact h.block k hk hn
  · rintro rfl
    rcases hp with hp | hp
    · exact hn hp
    · omega
theorem Fr.grown {S : Nat → Prop} {a w w' : World} {row : Option Nat} (h : Fr S a w) (hg : w.grownBy w' row) (hr : ∀ k, row = some k → S k ∨ a.heap.size ≤ k) : Fr S a w' := by
  refine ⟨hg.os.trans h.os, hg.tape.trans h.tape, hg.output.trans h.output, Nat.le_trans h.size hg.size, fun k hk hn => ?_⟩
  rw [hg.block k (Nat.lt_of_lt_of_le hk h.size) ?_]
  · exact h.block k hk hn
  · intro e
    rcases hr k e.symm with x | x
    · exact hn x
    · omega
theorem Fr.of_below {B : Nat} {w w' : World} (h : Below B w w') : Fr (fun k => B ≤ k) w w' := ⟨h.os, h.tape, h.output, h.size, fun k _ hn => h.block k (by omega)⟩
theorem Fr.below {B : Nat} {S : Nat → Prop} {w w' : World} (h : Fr S w w') (hB : B ≤ w.heap.size) (hs : ∀ k, S k → B ≤ k) : Below B w w' :=
  ⟨h.os, h.tape, h.output, h.size, fun k hk => h.block k (by omega) (fun x => by have := hs k x; omega)⟩
theorem Fr.grownBy {w w' : World} (h : Fr nob w w') : w.grownBy w' none := ⟨h.os, h.tape, h.output, h.size, fun k hk _ => h.block k hk (fun x => x)⟩
theorem Fr.of_grown {w w' : World} (h : w.grownBy w' none) : Fr nob w w' := ⟨h.os, h.tape, h.output, h.size, fun k hk _ => h.block k hk (by simp)⟩
theorem Fr.cell {S : Nat → Prop} {w w' : World} (h : Fr S w w') {a : Addr} (hl : a.block < w.heap.size) (hn : ¬ S a.block) : w'.cell? a = w.cell? a := World.cell?_of_block (h.block _ hl hn)
theorem Fr.froz' {S : Nat → Prop} {w w' : World} (h : Fr S w w') {a : Addr} {v : Value} (hc : w.cell? a = some v) (hf : w.frozen? a = false) (hn : ¬ S a.block) : w'.frozen? a = false := by
  rw [← hf]; exact World.frozen?_of_block (h.block _ (World.block_lt_of_cell? w _ hc) hn)
theorem cell_lt {w : World} {a : Addr} {v : Value} (h : w.cell? a = some v) : a.block < w.heap.size := World.block_lt_of_cell? w _ h
theorem Fr.cell' {S : Nat → Prop} {w w' : World} (h : Fr S w w') {a : Addr} {v : Value} (hc : w.cell? a = some v) (hn : ¬ S a.block) : w'.cell? a = some v := by
  rw [h.cell (cell_lt hc) hn]; exact hc
theorem Fr.froz {S : Nat → Prop} {w w' : World} (h : Fr S w w') {a : Addr} (hl : a.block < w.heap.size) (hn : ¬ S a.block) : w'.frozen? a = w.frozen? a := World.frozen?_of_block (h.block _ hl hn)

/-- A block known whole, not frozen. -/
def Blk (w : World) (b : Nat) (t : TypeId) (c : Array Value) : Prop := w.heap[b]? = some (.cells c t (0, 0))
theorem Blk.lt {w : World} {b : Nat} {t : TypeId} {c : Array Value} (h : Blk w b t c) : b < w.heap.size := by
  rcases Nat.lt_or_ge b w.heap.size with x | x
  · exact x
  · unfold Blk at h; rw [Array.getElem?_eq_none x] at h; cases h
theorem Blk.cell {w : World} {b : Nat} {t : TypeId} {c : Array Value} (h : Blk w b t c) (o : Nat) : w.cell? ⟨b, o, none⟩ = c[o]? := by
  unfold Blk at h; simp [World.cell?, h]
theorem Blk.froz {w : World} {b : Nat} {t : TypeId} {c : Array Value} (h : Blk w b t c) (o : Nat) : w.frozen? ⟨b, o, none⟩ = false := by
  unfold Blk at h; simp [World.frozen?, h]
theorem Blk.of_eq {w w' : World} {b : Nat} {t : TypeId} {c : Array Value} (h : Blk w b t c) (e : w'.heap[b]? = w.heap[b]?) : Blk w' b t c := by
  unfold Blk at h ⊢; rw [e]; exact h
theorem Blk.fr {S : Nat → Prop} {w w' : World} {b : Nat} {t : TypeId} {c : Array Value} (h : Blk w b t c) (hf : Fr S w w') (hn : ¬ S b) : Blk w' b t c := h.of_eq (hf.block b h.lt hn)
theorem Blk.alloc {w : World} {b : Nat} {t : TypeId} {c : Array Value} (h : Blk w b t c) (o : Obj) : Blk (w.alloc o) b t c := h.of_eq (Below.heap_alloc _ _ _ h.lt)
theorem Blk.drew {w : World} {b : Nat} {t : TypeId} {c : Array Value} (h : Blk w b t c) : Blk w.drew b t c := h
theorem Blk.drewN {w : World} {b : Nat} {t : TypeId} {c : Array Value} (h : Blk w b t c) (n : Nat) : Blk (w.drewN n) b t c := h
theorem Blk.new (w : World) (t : TypeId) (c : Array Value) : Blk (w.alloc (.cells c t)) w.heap.size t c := heap_alloc_new w _
theorem Blk.new' {w : World} {H : Nat} (h : w.heap.size = H) (t : TypeId) (c : Array Value) : Blk (w.alloc (.cells c t)) H t c := by subst h; exact Blk.new _ _ _
theorem Blk.grown {w w' : World} {row : Option Nat} {b : Nat} {t : TypeId} {c : Array Value} (h : Blk w b t c) (hg : w.grownBy w' row) (hn : row ≠ some b) : Blk w' b t c :=
  h.of_eq (hg.block b h.lt (fun e => hn e.symm))
theorem Blk.other {w : World} {b : Nat} {t : TypeId} {c : Array Value} (h : Blk w b t c) {p : Addr} (hn : p.block ≠ b) (u : Value) : Blk (w.setCell p u) b t c :=
  h.of_eq (Below.heap_setCell _ _ _ _ (fun e => hn e.symm))
theorem Blk.set {w : World} {b : Nat} {t : TypeId} {c : Array Value} (h : Blk w b t c) (o : Nat) (u : Value) : Blk (w.setCell ⟨b, o, none⟩ u) b t (c.setIfInBounds o u) := by
  unfold Blk at h ⊢
  simp [World.setCell, Array.getElem?_modify, h]
theorem Blk.six {w : World} {b : Nat} {t : TypeId} {x0 x1 x2 x3 x4 x5 : Value} (h : Blk w b t #[x0, x1, x2, x3, x4, x5]) :
    w.cell? ⟨b, 0, none⟩ = some x0 ∧ w.cell? ⟨b, 1, none⟩ = some x1 ∧ w.cell? ⟨b, 2, none⟩ = some x2 ∧ w.cell? ⟨b, 3, none⟩ = some x3 ∧ w.cell? ⟨b, 4, none⟩ = some x4 ∧ w.cell? ⟨b, 5, none⟩ = some x5 :=
  ⟨h.cell 0, h.cell 1, h.cell 2, h.cell 3, h.cell 4, h.cell 5⟩
/-- Two blocks of different types are two. -/
theorem Blk.ne {w : World} {b b' : Nat} {t t' : TypeId} {c c' : Array Value} (h : Blk w b t c) (h' : Blk w b' t' c') (hn : t ≠ t') : b ≠ b' := by
  rintro rfl
  unfold Blk at h h'
  rw [h] at h'
  simp at h'
  exact hn h'.2

/-- A slice of whole numbers that can be read. -/
def Rd (w : World) (v : Value) (xs : List Int) : Prop :=
  (v = .slice none 0 0 ∧ xs = []) ∨ ∃ a c, v = .slice (some a) xs.length c ∧ xs.length ≤ c ∧ xs.length * 8 ≤ 140737488355328 ∧ (∀ j, j < xs.length → w.cell? (a.add j) = some (.int .i64 (xs.getD j 0)))
/-- A row of whole numbers, not frozen, from block B on. -/
abbrev Row (w : World) (B : Nat) (t : TypeId) (v : Value) (xs : List Int) : Prop := w.ownsRow B t 1 v xs.length (xs.map (Value.int .i64))

theorem add_lit (g j : Nat) : (⟨g, 0, none⟩ : Addr).add j = ⟨g, j, none⟩ := by unfold Addr.add; split <;> simp_all
theorem row_cells {w : World} {B : Nat} {t : TypeId} {v : Value} {n : Nat} {us : List Value} (h : w.ownsRow B t 1 v n us) : v = .slice none 0 0 ∧ n = 0 ∧ us = [] ∨
    ∃ g cap cur, v = .slice (some ⟨g, 0, none⟩) n cap ∧ B ≤ g ∧ Blk w g t cur ∧ n ≤ cap ∧ cap ≤ maxLen ∧ cur.size = cap ∧ us.length = n ∧ ∀ j, j < n → cur[j]? = us[j]? := by
  obtain ⟨h1, h2⟩ := h
  rcases h2 with ⟨rfl, h2⟩ | ⟨g, cap, cur, hv, hb, hh, hc, hm, hs, ht⟩
  · left; subst h2; exact ⟨rfl, rfl, List.eq_nil_of_length_eq_zero (by simpa using h1)⟩
  · right
    refine ⟨g, cap, cur, hv, hb, hh, hc, hm, by simpa using hs, by simpa using h1, fun j hj => ?_⟩
    rw [← ht, List.getElem?_take, if_pos (by omega), Array.getElem?_toList]
theorem Row.rd {w : World} {B : Nat} {t : TypeId} {v : Value} {xs : List Int} (h : Row w B t v xs) (hl : xs.length * 8 ≤ 140737488355328) : Rd w v xs := by
  rcases row_cells h with ⟨rfl, h0, _⟩ | ⟨g, cap, cur, hv, _, hb, hc, _, _, _, hj⟩
  · exact .inl ⟨rfl, List.eq_nil_of_length_eq_zero h0⟩
  · refine .inr ⟨⟨g, 0, none⟩, cap, hv, hc, hl, fun j hlt => ?_⟩
    rw [add_lit, hb.cell, hj j hlt]
    simp [hlt, List.getD]
theorem Rd.fr {S : Nat → Prop} {w w' : World} {v : Value} {xs : List Int} (h : Rd w v xs) (hf : Fr S w w') (hn : ∀ g, v.ownBlock = some g → g < w.heap.size → ¬ S g) : Rd w' v xs := by
  rcases h with h | ⟨a, c, rfl, h1, h2, h3⟩
  · exact .inl h
  · refine .inr ⟨a, c, rfl, h1, h2, fun j hj => ?_⟩
    have hb : (a.add j).block = a.block := by unfold Addr.add; split <;> rfl
    exact hf.cell' (h3 j hj) (by rw [hb]; exact hn a.block rfl (by have := cell_lt (h3 j hj); rwa [hb] at this))
theorem Rd.nil {w : World} : Rd w (.slice none 0 0) [] := .inl ⟨rfl, rfl⟩
theorem Rd.len {w : World} {v : Value} {xs : List Int} (h : Rd w v xs) : ∃ a c, v = .slice a xs.length c := by
  rcases h with ⟨rfl, rfl⟩ | ⟨a, c, rfl, _⟩
  · exact ⟨none, 0, rfl⟩
  · exact ⟨some a, c, rfl⟩
theorem Rd.short {w : World} {v : Value} {xs : List Int} (h : Rd w v xs) : xs.length * 8 ≤ 140737488355328 := by
  rcases h with ⟨_, rfl⟩ | ⟨a, c, _, _, h, _⟩
  · simp
  · exact h
theorem ownsRow_fr {S : Nat → Prop} {w w' : World} {B : Nat} {t : TypeId} {sz : Nat} {v : Value} {n : Nat} {us : List Value} (h : w.ownsRow B t sz v n us) (hf : Fr S w w') (hn : ∀ g, v.ownBlock = some g → ¬ S g) : w'.ownsRow B t sz v n us := by
  refine ⟨h.1, ?_⟩
  rcases h.2 with x | ⟨g, cap, cur, rfl, hb, hg, r⟩
  · exact .inl x
  · refine .inr ⟨g, cap, cur, rfl, hb, ?_, r⟩
    have hl : g < w.heap.size := Blk.lt (t := t) (c := cur) hg
    rw [hf.block g hl (hn g rfl)]; exact hg
theorem ownsRow_base {w : World} {B B' : Nat} {t : TypeId} {sz : Nat} {v : Value} {n : Nat} {us : List Value} (h : w.ownsRow B t sz v n us) (hB : B' ≤ B) : w.ownsRow B' t sz v n us := by
  refine ⟨h.1, ?_⟩
  rcases h.2 with x | ⟨g, cap, cur, hv, hb, r⟩
  · exact .inl x
  · exact .inr ⟨g, cap, cur, hv, Nat.le_trans hB hb, r⟩
/-- Where an owned row lies. -/
theorem ownsRow_block {w : World} {B : Nat} {t : TypeId} {sz : Nat} {v : Value} {n : Nat} {us : List Value} (h : w.ownsRow B t sz v n us) {g : Nat} (hg : v.ownBlock = some g) : B ≤ g ∧ ∃ c, Blk w g t c := by
  rcases h.2 with ⟨rfl, _⟩ | ⟨g', cap, cur, rfl, hb, hh, _⟩
  · simp [Value.ownBlock] at hg
  · simp [Value.ownBlock] at hg
    subst hg
    exact ⟨hb, cur, hh⟩
theorem ret_bool {a b : Bool} (h : a = b) : Ending.returned (.bool a) = Ending.returned (.bool b) := by rw [h]
theorem ret_int {k : IntKind} {a b : Int} (h : a = b) : Ending.returned (.int k a) = Ending.returned (.int k b) := by rw [h]
/-- The walk goes on from whatever world of which F is known. -/
theorem wp_seal {P : Program} {c : Code} {Q : Exit → Act → World → Prop} {a : Act} {w : World} (F : World → Prop) (hf : F w) (h : ∀ W, F W → c.wp P Q a W) : c.wp P Q a w := h w hf
end Go.Proofs.Ytkbnoceekileiaa
namespace Go.Proofs.Ytkbnoceekileiaa
open Go Go.RowKit
set_option linter.unusedVariables false
set_option linter.unusedSimpArgs false
/-- A piece of memory: what it says of a world and of the blocks that it has; it stays so while none of these is changed. -/
structure Piece where
  holds : World → (Nat → Prop) → Prop
  keep : ∀ {w w' : World} {S F : Nat → Prop}, holds w S → Fr F w w' → (∀ k, S k → ¬ F k) → (∀ k, S k → k < w.heap.size) → holds w' S
/-- Since w0 only new blocks were written; they are those of these pieces, each its own, and others. -/
structure Heap (w0 w : World) (l : List Piece) : Prop where
  fr : Fr nob w0 w
  own : ∃ σ : Nat → Nat → Prop, (∀ (i : Nat) (P : Piece), l[i]? = some P → P.holds w (σ i)) ∧ (∀ i k, σ i k → w0.heap.size ≤ k ∧ k < w.heap.size) ∧ (∀ i j k, σ i k → σ j k → i = j)
theorem Heap.start (w : World) : Heap w w [] := ⟨Fr.refl _ _, fun _ _ => False, fun i P h => by simp at h, fun _ _ h => h.elim, fun _ _ _ h => h.elim⟩
theorem Heap.go {w0 w w' : World} {l : List Piece} (h : Heap w0 w l) (hf : Fr nob w w') : Heap w0 w' l := by
  obtain ⟨f, σ, h1, h2, h3⟩ := h
  exact ⟨f.trans hf (fun _ _ x => x), σ, fun i P hi => P.keep (h1 i P hi) hf (fun _ _ x => x) (fun k hk => (h2 i k hk).2), fun i k hk => ⟨(h2 i k hk).1, Nat.lt_of_lt_of_le (h2 i k hk).2 hf.size⟩, h3⟩
/-- A new piece, of new blocks. -/
theorem Heap.push {w0 w w' : World} {l : List Piece} (h : Heap w0 w l) (hf : Fr nob w w') {p : Piece} {S : Nat → Prop} (hp : p.holds w' S) (hs : ∀ k, S k → w.heap.size ≤ k ∧ k < w'.heap.size) : Heap w0 w' (l ++ [p]) := by
  obtain ⟨f, σ, h1, h2, h3⟩ := h
  have hz := f.size
  refine ⟨f.trans hf (fun _ _ x => x), fun i k => if i < l.length then σ i k else if i = l.length then S k else False, fun i P hi => ?_, fun i k hk => ?_, fun i j k hi hj => ?_⟩
  · by_cases hl : i < l.length
    · simp only [hl, if_true]
      rw [List.getElem?_append_left hl] at hi
      exact P.keep (h1 i P hi) hf (fun _ _ x => x) (fun k hk => (h2 i k hk).2)
    · have : i = l.length := by
        have := (List.getElem?_eq_some_iff.1 hi).1
        simp at this; omega
      subst this
      simp at hi
      subst hi
      simpa using hp
  · simp only at hk
    split at hk
    · exact ⟨(h2 i k hk).1, Nat.lt_of_lt_of_le (h2 i k hk).2 hf.size⟩
    · split at hk
      · exact ⟨Nat.le_trans hz (hs k hk).1, (hs k hk).2⟩
      · exact hk.elim
  · simp only at hi hj
    split at hi <;> split at hj
    · exact h3 i j k hi hj
    · split at hj
      · have := (h2 i k hi).2; have := (hs k hj).1; omega
      · exact hj.elim
    · split at hi
      · have := (h2 j k hj).2; have := (hs k hi).1; omega
      · exact hi.elim
    · split at hi
      · split at hj
        · omega
        · exact hj.elim
      · exact hi.elim
/-- A piece is taken; what becomes of it is given back. -/
theorem Heap.take {w0 w : World} {l : List Piece} (h : Heap w0 w l) (i : Nat) {p : Piece} (hi : l[i]? = some p) : ∃ S : Nat → Prop, p.holds w S ∧ (∀ k, S k → w0.heap.size ≤ k ∧ k < w.heap.size) ∧
    ∀ {w' : World} {p' : Piece} {S' : Nat → Prop}, Fr S w w' → p'.holds w' S' → (∀ k, S' k → S k ∨ (w.heap.size ≤ k ∧ k < w'.heap.size)) → Heap w0 w' (l.set i p') := by
  obtain ⟨f, σ, h1, h2, h3⟩ := h
  refine ⟨σ i, h1 i p hi, h2 i, fun {w' p' S'} hf hp hs => ?_⟩
  have hz := f.size
  have hil := (List.getElem?_eq_some_iff.1 hi).1
  refine ⟨f.trans hf (fun k hk hx => by have := (h2 i k hx).1; omega), fun j k => if j = i then S' k else σ j k, fun j P hj => ?_, fun j k hk => ?_, fun j j' k hj hj' => ?_⟩
  · by_cases hji : j = i
    · subst hji
      rw [List.getElem?_set_self hil] at hj
      simp at hj
      subst hj
      simpa using hp
    · rw [List.getElem?_set_ne (fun x => hji x.symm)] at hj
      simp only [hji, if_false]
      exact P.keep (h1 j P hj) hf (fun k hk hx => hji (h3 j i k hk hx)) (fun k hk => (h2 j k hk).2)
  · simp only at hk
    split at hk
    · rcases hs k hk with hk | hk
      · exact ⟨(h2 i k hk).1, Nat.lt_of_lt_of_le (h2 i k hk).2 hf.size⟩
      · exact ⟨Nat.le_trans hz hk.1, hk.2⟩
    · exact ⟨(h2 j k hk).1, Nat.lt_of_lt_of_le (h2 j k hk).2 hf.size⟩
  · simp only at hj hj'
    split at hj <;> split at hj'
    · omega
    · rcases hs k hj with hk | hk
      · have := h3 i j' k hk hj'; omega
      · have := (h2 j' k hj').2; omega
    · rcases hs k hj' with hk | hk
      · have := h3 i j k hk hj; omega
      · have := (h2 j k hj).2; omega
    · exact h3 j j' k hj hj'
/-- The same, of two pieces. -/
theorem Heap.take2 {w0 w : World} {l : List Piece} (h : Heap w0 w l) (i j : Nat) {p q : Piece} (hi : l[i]? = some p) (hj : l[j]? = some q) (hij : i ≠ j) : ∃ S T : Nat → Prop, p.holds w S ∧ q.holds w T ∧ (∀ k, S k → ¬ T k) ∧ (∀ k, S k ∨ T k → w0.heap.size ≤ k ∧ k < w.heap.size) ∧
    ∀ {w' : World} {p' q' : Piece} {S' T' : Nat → Prop}, Fr (fun k => S k ∨ T k) w w' → p'.holds w' S' → q'.holds w' T' → (∀ k, S' k → ¬ T' k) → (∀ k, S' k ∨ T' k → S k ∨ T k ∨ (w.heap.size ≤ k ∧ k < w'.heap.size)) → Heap w0 w' ((l.set i p').set j q') := by
  obtain ⟨f, σ, h1, h2, h3⟩ := h
  refine ⟨σ i, σ j, h1 i p hi, h1 j q hj, fun k hk hx => hij (h3 i j k hk hx), fun k hk => by rcases hk with hk | hk <;> exact h2 _ k hk, fun {w' p' q' S' T'} hf hp hq hst hs => ?_⟩
  have hz := f.size
  have hil := (List.getElem?_eq_some_iff.1 hi).1
  have hjl := (List.getElem?_eq_some_iff.1 hj).1
  refine ⟨f.trans hf (fun k hk hx => by rcases hx with hx | hx <;> (have := (h2 _ k hx).1; omega)), fun a k => if a = i then S' k else if a = j then T' k else σ a k, fun a P ha => ?_, fun a k hk => ?_, fun a b k ha hb => ?_⟩
  · by_cases haj : a = j
    · subst haj
      rw [List.getElem?_set_self (by simpa using hjl)] at ha
      simp at ha
      subst ha
      simpa [show a ≠ i from fun x => hij x.symm] using hq
    · rw [List.getElem?_set_ne (fun x => haj x.symm)] at ha
      by_cases hai : a = i
      · subst hai
        rw [List.getElem?_set_self hil] at ha
        simp at ha
        subst ha
        simpa using hp
      · rw [List.getElem?_set_ne (fun x => hai x.symm)] at ha
        simp only [hai, haj, if_false]
        exact P.keep (h1 a P ha) hf (fun k hk hx => by rcases hx with hx | hx; exact hai (h3 a i k hk hx); exact haj (h3 a j k hk hx)) (fun k hk => (h2 a k hk).2)
  · have key : ∀ k, S' k ∨ T' k → w0.heap.size ≤ k ∧ k < w'.heap.size := fun k hk => by
      rcases hs k hk with hk | hk | hk
      · exact ⟨(h2 i k hk).1, Nat.lt_of_lt_of_le (h2 i k hk).2 hf.size⟩
      · exact ⟨(h2 j k hk).1, Nat.lt_of_lt_of_le (h2 j k hk).2 hf.size⟩
      · exact ⟨Nat.le_trans hz hk.1, hk.2⟩
    simp only at hk
    split at hk
    · exact key k (.inl hk)
    · split at hk
      · exact key k (.inr hk)
      · exact ⟨(h2 a k hk).1, Nat.lt_of_lt_of_le (h2 a k hk).2 hf.size⟩
  · have key : ∀ c k, c ≠ i → c ≠ j → σ c k → ¬ (S' k ∨ T' k) := fun c k hci hcj hc hk => by
      rcases hs k hk with hk | hk | hk
      · exact hci (h3 c i k hc hk)
      · exact hcj (h3 c j k hc hk)
      · have := (h2 c k hc).2; omega
    simp only at ha hb
    by_cases a1 : a = i <;> by_cases b1 : b = i
    · omega
    · by_cases b2 : b = j
      · simp only [a1, b1, b2, if_true, if_false, show j ≠ i from fun x => hij x.symm] at ha hb
        exact (hst k ha hb).elim
      · simp only [a1, b1, b2, if_true, if_false] at ha hb
        exact (key b k b1 b2 hb (.inl ha)).elim
    · by_cases a2 : a = j
      · simp only [a1, b1, a2, if_true, if_false, show j ≠ i from fun x => hij x.symm] at ha hb
        exact (hst k hb ha).elim
      · simp only [a1, b1, a2, if_true, if_false] at ha hb
        exact (key a k a1 a2 ha (.inl hb)).elim
    · by_cases a2 : a = j <;> by_cases b2 : b = j
      · omega
      · simp only [a1, b1, a2, b2, if_true, if_false, show j ≠ i from fun x => hij x.symm] at ha hb
        exact (key b k b1 b2 hb (.inr ha)).elim
      · simp only [a1, b1, a2, b2, if_true, if_false, show j ≠ i from fun x => hij x.symm] at ha hb
        exact (key a k a1 a2 ha (.inr hb)).elim
      · simp only [a1, b1, a2, b2, if_false] at ha hb
        exact h3 a b k ha hb
/-- What a piece says. -/
theorem Heap.get {w0 w : World} {l : List Piece} (h : Heap w0 w l) (i : Nat) {p : Piece} (hi : l[i]? = some p) : ∃ S : Nat → Prop, p.holds w S ∧ (∀ k, S k → w0.heap.size ≤ k ∧ k < w.heap.size) := by
  obtain ⟨S, h1, h2, _⟩ := h.take i hi
  exact ⟨S, h1, h2⟩
/-- The first pieces of some. -/
theorem Heap.first {w0 w : World} {l r : List Piece} (h : Heap w0 w (l ++ r)) : Heap w0 w l := by
  obtain ⟨f, σ, h1, h2, h3⟩ := h
  exact ⟨f, σ, fun i P hi => h1 i P (by rw [List.getElem?_append_left (List.getElem?_eq_some_iff.1 hi).1]; exact hi), h2, h3⟩
theorem Heap.first2 {w0 w : World} {a b c : Piece} (h : Heap w0 w [a, b, c]) : Heap w0 w [a, b] := h.first (l := [a, b]) (r := [c])
theorem Heap.below {w0 w : World} {l : List Piece} (h : Heap w0 w l) : Below w0.heap.size w0 w := h.fr.below (Nat.le_refl _) (fun _ x => x.elim)
theorem Heap.drew {w0 w : World} {l : List Piece} (h : Heap w0 w l) : Heap w0 w.drew l := h.go (Fr.drew (Fr.refl _ _))
theorem Heap.drewN {w0 w : World} {l : List Piece} (h : Heap w0 w l) (n : Nat) : Heap w0 (w.drewN n) l := h.go (Fr.drewN (Fr.refl _ _) n)
theorem Heap.skip {w0 w : World} {l : List Piece} (h : Heap w0 w l) (o : Obj) : Heap w0 (w.alloc o) l := h.go (Fr.alloc (Fr.refl _ _) o)
/-- A block known whole. -/
def blkP (b : Nat) (t : TypeId) (c : Array Value) : Piece where
  holds w S := Blk w b t c ∧ S b
  keep h hf hn _ := ⟨h.1.fr hf (hn _ h.2), h.2⟩
theorem Heap.alloc {w0 w : World} {l : List Piece} (h : Heap w0 w l) (t : TypeId) (c : Array Value) : Heap w0 (w.alloc (.cells c t)) (l ++ [blkP w.heap.size t c]) :=
  h.push (S := fun k => k = w.heap.size) (Fr.alloc (Fr.refl _ _) _) ⟨Blk.new w t c, rfl⟩ (fun k hk => by subst hk; simp)
theorem Heap.blk {w0 w : World} {l : List Piece} (h : Heap w0 w l) (i : Nat) {b : Nat} {t : TypeId} {c : Array Value} (hi : l[i]? = some (blkP b t c)) : Blk w b t c := by
  obtain ⟨S, h1, _⟩ := h.get i hi
  exact h1.1
theorem Heap.setCell {w0 w : World} {l : List Piece} (h : Heap w0 w l) (i : Nat) {b : Nat} {t : TypeId} {c : Array Value} (hi : l[i]? = some (blkP b t c)) (o : Nat) (u : Value) : Heap w0 (w.setCell ⟨b, o, none⟩ u) (l.set i (blkP b t (c.setIfInBounds o u))) := by
  obtain ⟨S, h1, _, U⟩ := h.take i hi
  exact U (S' := S) ((Fr.refl _ _).setCell (.inl h1.2) u) ⟨h1.1.set o u, h1.2⟩ (fun k hk => .inl hk)
end Go.Proofs.Ytkbnoceekileiaa
namespace Go.Proofs.Ytkbnoceekileiaa
open Go Go.RowKit
set_option linter.unusedVariables false
set_option linter.unusedSimpArgs false
/-- The slice v has n elements, whose cells are us; if it has room for any, it lies in a block of its type that is not frozen. -/
def QRow (w : World) (t : TypeId) (sz : Nat) (v : Value) (n : Nat) (us : List Value) : Prop :=
  us.length = n * sz ∧ ∃ a cap, v = .slice a n cap ∧ n ≤ cap ∧ cap ≤ maxLen ∧
    ((cap = 0 ∧ (a = none ∨ ∃ b, a = some b)) ∨ ∃ g off cur, a = some ⟨g, off, none⟩ ∧ Blk w g t cur ∧ off + cap * sz ≤ cur.size ∧ ∀ j u, us[j]? = some u → cur[off + j]? = some u)
theorem QRow.nil (w : World) (t : TypeId) (sz : Nat) : QRow w t sz (.slice none 0 0) 0 [] := ⟨by simp, none, 0, rfl, Nat.le_refl _, Nat.zero_le _, .inl ⟨rfl, .inl rfl⟩⟩
theorem QRow.fr {F : Nat → Prop} {w w' : World} {t : TypeId} {sz : Nat} {v : Value} {n : Nat} {us : List Value} (h : QRow w t sz v n us) (hf : Fr F w w') (hn : ∀ g, v.ownBlock = some g → (∃ c, Blk w g t c) → ¬ F g) : QRow w' t sz v n us := by
  obtain ⟨h0, a, cap, rfl, h1, h2, h3⟩ := h
  refine ⟨h0, a, cap, rfl, h1, h2, ?_⟩
  rcases h3 with h3 | ⟨g, off, cur, rfl, hb, h4, h5⟩
  · exact .inl h3
  · exact .inr ⟨g, off, cur, rfl, hb.fr hf (hn g rfl ⟨_, hb⟩), h4, h5⟩
theorem QRow.of_own {w : World} {B : Nat} {t : TypeId} {sz : Nat} {v : Value} {n : Nat} {us : List Value} (h : w.ownsRow B t sz v n us) : QRow w t sz v n us := by
  refine ⟨h.1, ?_⟩
  rcases h.2 with ⟨rfl, rfl⟩ | ⟨g, cap, cur, rfl, hb, hh, hc, hm, hs, ht⟩
  · exact ⟨none, 0, rfl, Nat.le_refl _, Nat.zero_le _, .inl ⟨rfl, .inl rfl⟩⟩
  · refine ⟨_, cap, rfl, hc, hm, .inr ⟨g, 0, cur, rfl, hh, by omega, fun j u hu => ?_⟩⟩
    rw [← ht, List.getElem?_take] at hu
    split at hu
    · simpa using hu
    · cases hu
/-- What many stores into a block leave. -/
theorem Blk.setCells {t : TypeId} {g : Nat} : ∀ (news : List Value) {w : World} {cur : Array Value} (off : Nat), Blk w g t cur → off + news.length ≤ cur.size →
    ∃ cur', Blk (w.setCells g off news) g t cur' ∧ cur'.size = cur.size ∧ (∀ j, j < off ∨ off + news.length ≤ j → cur'[j]? = cur[j]?) ∧ (∀ j u, news[j]? = some u → cur'[off + j]? = some u)
  | [], w, cur, off, h, _ => ⟨cur, h, rfl, fun _ _ => rfl, fun j u hu => by simp at hu⟩
  | x :: news, w, cur, off, h, hl => by
    simp only [List.length_cons] at hl
    obtain ⟨cur', h1, h2, h3, h4⟩ := Blk.setCells news (off + 1) (h.set off x) (by simp; omega)
    refine ⟨cur', h1, by simpa using h2, fun j hj => ?_, fun j u hu => ?_⟩
    · rw [h3 j (by simp only [List.length_cons] at hj; omega), Array.getElem?_setIfInBounds_ne (by simp only [List.length_cons] at hj; omega)]
    · cases j with
      | zero =>
        simp only [List.getElem?_cons_zero, Option.some.injEq] at hu
        subst hu
        rw [Nat.add_zero, h3 off (by omega), Array.getElem?_setIfInBounds_self_of_lt (by omega)]
      | succ j =>
        simp only [List.getElem?_cons_succ] at hu
        have := h4 j u hu
        rwa [show off + 1 + j = off + (j + 1) from by omega] at this
theorem setCells_other {g : Nat} : ∀ (news : List Value) (w : World) (off k : Nat), k ≠ g → (w.setCells g off news).heap[k]? = w.heap[k]?
  | [], w, off, k, h => rfl
  | x :: news, w, off, k, h => by
    show ((w.setCell ⟨g, off, none⟩ x).setCells g (off + 1) news).heap[k]? = _
    rw [setCells_other news _ (off + 1) k h, Below.heap_setCell _ _ _ _ h]
theorem setCells_rest {g : Nat} : ∀ (news : List Value) (w : World) (off : Nat), (w.setCells g off news).os = w.os ∧ (w.setCells g off news).tape = w.tape ∧ (w.setCells g off news).output = w.output ∧ (w.setCells g off news).heap.size = w.heap.size
  | [], w, off => ⟨rfl, rfl, rfl, rfl⟩
  | x :: news, w, off => by
    obtain ⟨h1, h2, h3, h4⟩ := setCells_rest news (w.setCell ⟨g, off, none⟩ x) (off + 1)
    exact ⟨h1, h2, h3, h4.trans (by simp [World.setCell])⟩
theorem run_append_q {P : Program} (w : World) (t ty e : TypeId) (i : TypeInfo) (z : Value) (size bytes : Nat) (ht : P.underlying t = some (.slice e)) (hi : P.info? e = some i) (hz : i.zero = some z)
    (hsize : i.size = size) (hby : i.bytes = bytes) (hzs : z.cells.size = size) (hsz : 0 < size) (v : Value) (n : Nat) (us : List Value) (hq : QRow w e size v n us)
    (ad : Addr) (m c : Nat) (news : List Value) (hl : news.length = m * size) (hnews : ∀ j u, news[j]? = some u → w.cell? (ad.add j) = some u) (h1 : ∀ u ∈ news, u.oneCell' = true)
    (hm : 0 < m) (h63 : n + m ≤ maxLen) (hbytes : (n + m) * bytes ≤ 140737488355328) :
    ∃ g off cap w', (Builtin.append_ #[t, t] ty #[v, .slice (some ad) m c]).run P w = .ok (.slice (some ⟨g, off, none⟩) (n + m) cap) w' ∧
      QRow w' e size (.slice (some ⟨g, off, none⟩) (n + m) cap) (n + m) (us ++ news) ∧ w.grownBy w' v.ownBlock ∧ (v.ownBlock = some g ∨ w.heap.size ≤ g) ∧ g < w'.heap.size := by
  obtain ⟨h0, a, cap, rfl, hnc, hcm, h3⟩ := hq
  have grow : ∀ b : Addr, a = some b → cap < n + m → (∀ j u, us[j]? = some u → w.cell? (b.add j) = some u) → _ := fun b hb hc hcells => run_append_arg_grows (P := P) w t ty e i z size bytes ht hi hz hsize hby hzs hsz b n cap us h0 hcells ad m c news hl hnews hc h63 hbytes
  have fin : ∀ v' w', w'.ownsRow w.heap.size e size v' (n + m) (us ++ news) → w.grownBy w' none → ∃ g cap', v' = .slice (some ⟨g, 0, none⟩) (n + m) cap' ∧ g = g ∧ w.heap.size ≤ g ∧ g < w'.heap.size := fun v' w' hown hg => by
    obtain ⟨g, cap', hv, hb, hlt⟩ := hown.form (by omega)
    exact ⟨g, cap', hv, rfl, hb, hlt⟩
  by_cases hroom : n + m ≤ cap
  · rcases h3 with ⟨h3, _⟩ | ⟨g, off, cur, rfl, hb, h4, h5⟩
    · omega
    · have hfit : off + n * size + news.length ≤ cur.size := by
        rw [hl]
        have : (n + m) * size ≤ cap * size := Nat.mul_le_mul_right _ hroom
        rw [Nat.add_mul] at this
        omega
      have hc1 : ∀ j, j < news.length → (w.cell? ⟨g, off + n * i.size + j, none⟩).isSome = true := fun j hj => by
        rw [hsize, hb.cell, Array.getElem?_eq_getElem (by omega)]; rfl
      have hc2 : ∀ j, j < news.length → w.frozen? ⟨g, off + n * i.size + j, none⟩ = false := fun j hj => hb.froz _
      have hrun := run_append_room_cells (P := P) w t ty e i ht hi g off n cap ad m c news (by rw [hl, hsize]) hnews h1 hroom hc1 hc2
      rw [hsize] at hrun
      obtain ⟨cur', k1, k2, k3, k4⟩ := Blk.setCells news (off + n * size) hb hfit
      obtain ⟨r1, r2, r3, r4⟩ := setCells_rest (g := g) news w (off + n * size)
      refine ⟨g, off, cap, _, hrun, ⟨by rw [List.length_append, h0, hl, Nat.add_mul], _, cap, rfl, hroom, hcm, .inr ⟨g, off, cur', rfl, k1, by rw [k2]; exact h4, fun j u hu => ?_⟩⟩, ⟨r1, r2, r3, Nat.le_of_eq r4.symm, fun k hk hne => setCells_other news w _ k (fun e => hne (by simp [Value.ownBlock, e]))⟩, .inl rfl, by rw [r4]; exact hb.lt⟩
      by_cases hj : j < us.length
      · rw [List.getElem?_append_left hj] at hu
        rw [k3 _ (by omega)]
        exact h5 j u hu
      · rw [List.getElem?_append_right (by omega)] at hu
        have := k4 _ u hu
        rwa [show off + n * size + (j - us.length) = off + j from by omega] at this
  · have key : ∃ v' w', (Builtin.append_ #[t, t] ty #[.slice a n cap, .slice (some ad) m c]).run P w = .ok v' w' ∧ w'.ownsRow w.heap.size e size v' (n + m) (us ++ news) ∧ w.grownBy w' none := by
      rcases h3 with ⟨rfl, h3⟩ | ⟨g, off, cur, rfl, hb, h4, h5⟩
      · obtain rfl : n = 0 := by omega
        obtain rfl : us = [] := List.eq_nil_of_length_eq_zero (by simpa using h0)
        rcases h3 with rfl | ⟨b, rfl⟩
        · obtain ⟨v', w', r1, r2, r3, _⟩ := run_append_own (P := P) w w.heap.size t ty e i z size bytes ht hi hz hsize hby hzs hsz (.slice none 0 0) 0 [] (World.ownsRow_nil w _ e size) ad m c news hl hnews h1 h63 hbytes (Nat.le_refl _)
          exact ⟨v', w', r1, r2, r3⟩
        · exact grow b rfl (by omega) (fun j u hu => by simp at hu)
      · exact grow _ rfl (by omega) (fun j u hu => by rw [Addr.add_lit, hb.cell]; exact h5 j u hu)
    obtain ⟨v', w', r1, r2, r3⟩ := key
    obtain ⟨g, cap', rfl, _, hb, hlt⟩ := fin v' w' r2 r3
    exact ⟨g, 0, cap', w', r1, QRow.of_own r2, ⟨r3.os, r3.tape, r3.output, r3.size, fun k hk _ => r3.block k hk (by simp)⟩, .inr hb, hlt⟩
section
variable {P : Program} (w : World)
theorem wp_append_q {o : Oper} {a : Act} {K : Act → World → Prop} {Q : Exit → Act → World → Prop} (s x : Operand) (t : TypeId)
    (ho : o.op = .call { callee := .builtin .append, args := #[s, x], argTypes := #[t, t] })
    (e : TypeId) (i : TypeInfo) (z : Value) (size bytes : Nat) (ht : P.underlying t = some (.slice e)) (hi : P.info? e = some i) (hz : i.zero = some z)
    (hsize : i.size = size) (hby : i.bytes = bytes) (hzs : z.cells.size = size) (hsz : 0 < size)
    (v : Value) (n : Nat) (us : List Value) (hs : a.eval s = v) (hq : QRow w e size v n us)
    (ad : Addr) (m c : Nat) (news : List Value) (hx : a.eval x = .slice (some ad) m c) (hl : news.length = m * size) (hnews : ∀ j u, news[j]? = some u → w.cell? (ad.add j) = some u) (h1 : ∀ u ∈ news, u.oneCell' = true)
    (hm : 0 < m) (h63 : n + m ≤ maxLen) (hbytes : (n + m) * bytes ≤ 140737488355328)
    (h : ∀ g off cap w', QRow w' e size (.slice (some ⟨g, off, none⟩) (n + m) cap) (n + m) (us ++ news) → w.grownBy w' v.ownBlock → (v.ownBlock = some g ∨ w.heap.size ≤ g) → g < w'.heap.size → K (a.put o.dst (.slice (some ⟨g, off, none⟩) (n + m) cap)) w') : o.wp P a w K Q := by
  obtain ⟨g, off, cap, w', hr, h2, h3, h4, h5⟩ := run_append_q (P := P) w t o.type e i z size bytes ht hi hz hsize hby hzs hsz v n us hq ad m c news hl hnews h1 hm h63 hbytes
  unfold Oper.wp execOp
  simp only [ho, resolve, invoke, builtin, Sem.run_bind, Sem.run_pure, Result.andThen_ok, List.map_toArray, List.map_cons, List.map_nil, hs, hx, hr]
  exact h g off cap w' h2 h3 h4 h5
theorem wpList_append_q {ops : Array Oper} {rest : List Oper} {o : Oper} {a : Act} {Q : Exit → Act → World → Prop} (hgd : o.guard = none) (s x : Operand) (t : TypeId)
    (ho : o.op = .call { callee := .builtin .append, args := #[s, x], argTypes := #[t, t] })
    (e : TypeId) (i : TypeInfo) (z : Value) (size bytes : Nat) (ht : P.underlying t = some (.slice e)) (hi : P.info? e = some i) (hz : i.zero = some z)
    (hsize : i.size = size) (hby : i.bytes = bytes) (hzs : z.cells.size = size) (hsz : 0 < size)
    (v : Value) (n : Nat) (us : List Value) (hs : a.eval s = v) (hq : QRow w e size v n us)
    (ad : Addr) (m c : Nat) (news : List Value) (hx : a.eval x = .slice (some ad) m c) (hl : news.length = m * size) (hnews : ∀ j u, news[j]? = some u → w.cell? (ad.add j) = some u) (h1 : ∀ u ∈ news, u.oneCell' = true)
    (hm : 0 < m) (h63 : n + m ≤ maxLen) (hbytes : (n + m) * bytes ≤ 140737488355328)
    (h : ∀ g off cap w', QRow w' e size (.slice (some ⟨g, off, none⟩) (n + m) cap) (n + m) (us ++ news) → w.grownBy w' v.ownBlock → (v.ownBlock = some g ∨ w.heap.size ≤ g) → g < w'.heap.size → wpList P ops Q rest (a.put o.dst (.slice (some ⟨g, off, none⟩) (n + m) cap)) w') : wpList P ops Q (o :: rest) a w :=
  wpList_plain hgd fun _ hK => wp_append_q w s x t ho e i z size bytes ht hi hz hsize hby hzs hsz v n us hs hq ad m c news hx hl hnews h1 hm h63 hbytes fun g off cap w' h2 h3 h4 h5 => hK _ _ (h g off cap w' h2 h3 h4 h5)
theorem step_append_q {ops : Array Oper} {o : Oper} {a : Act} {K : Act → World → Prop} {Q : Exit → Act → World → Prop} {E : Prop} (hgd : o.guard = none) (s x : Operand) (t : TypeId)
    (ho : o.op = .call { callee := .builtin .append, args := #[s, x], argTypes := #[t, t] })
    (e : TypeId) (i : TypeInfo) (z : Value) (size bytes : Nat) (ht : P.underlying t = some (.slice e)) (hi : P.info? e = some i) (hz : i.zero = some z)
    (hsize : i.size = size) (hby : i.bytes = bytes) (hzs : z.cells.size = size) (hsz : 0 < size)
    (v : Value) (n : Nat) (us : List Value) (hs : a.eval s = v) (hq : QRow w e size v n us)
    (ad : Addr) (m c : Nat) (news : List Value) (hx : a.eval x = .slice (some ad) m c) (hl : news.length = m * size) (hnews : ∀ j u, news[j]? = some u → w.cell? (ad.add j) = some u) (h1 : ∀ u ∈ news, u.oneCell' = true)
    (hm : 0 < m) (h63 : n + m ≤ maxLen) (hbytes : (n + m) * bytes ≤ 140737488355328)
    (h : ∀ g off cap w', QRow w' e size (.slice (some ⟨g, off, none⟩) (n + m) cap) (n + m) (us ++ news) → w.grownBy w' v.ownBlock → (v.ownBlock = some g ∨ w.heap.size ≤ g) → g < w'.heap.size → K (a.put o.dst (.slice (some ⟨g, off, none⟩) (n + m) cap)) w') :
    if Region.wanted o (yielded ops a.tmps) = true then Oper.wp P o a w K Q else E := by
  have hw : Region.wanted o (yielded ops a.tmps) = true := by simp [Region.wanted, hgd]
  rw [if_pos hw]
  exact wp_append_q w s x t ho e i z size bytes ht hi hz hsize hby hzs hsz v n us hs hq ad m c news hx hl hnews h1 hm h63 hbytes h
end
/-- One element cut at the front. -/
theorem QRow.pop {w : World} {t : TypeId} {sz : Nat} {g off n cap : Nat} {us : List Value} (h : QRow w t sz (.slice (some ⟨g, off, none⟩) (n + 1) cap) (n + 1) us) :
    QRow w t sz (.slice (some ⟨g, off + sz, none⟩) n (cap - 1)) n (us.drop sz) ∧ (cap = 1 → QRow w t sz (.slice (some ⟨g, off, none⟩) n 0) n (us.drop sz)) := by
  obtain ⟨h0, a, c, hv, h1, h2, h3⟩ := h
  simp only [Value.slice.injEq] at hv
  obtain ⟨rfl, _, rfl⟩ := hv
  rcases h3 with ⟨rfl, _⟩ | ⟨g', off', cur, hg, hb, h4, h5⟩
  · omega
  · simp only [Option.some.injEq, Addr.mk.injEq] at hg
    obtain ⟨rfl, rfl, _⟩ := hg
    have hm : (n + 1) * sz = n * sz + sz := Nat.succ_mul n sz
    have hc : cap * sz = (cap - 1) * sz + sz := by
      rw [← Nat.succ_mul]; congr 1; omega
    refine ⟨⟨by rw [List.length_drop, h0]; omega, _, cap - 1, rfl, by omega, by omega, .inr ⟨g, off + sz, cur, rfl, hb, by omega, fun j u hu => ?_⟩⟩, fun hc1 => ?_⟩
    · rw [List.getElem?_drop] at hu
      have := h5 _ u hu
      rwa [show off + sz + j = off + (sz + j) from by omega]
    · subst hc1
      obtain rfl : n = 0 := by omega
      exact ⟨by rw [List.length_drop, h0]; omega, _, 0, rfl, Nat.le_refl _, Nat.zero_le _, .inl ⟨rfl, .inr ⟨_, rfl⟩⟩⟩
/-- What its address is, and its cells. -/
theorem QRow.at {w : World} {t : TypeId} {sz : Nat} {a : Option Addr} {n cap : Nat} {us : List Value} (h : QRow w t sz (.slice a n cap) n us) (hn : 0 < n) : ∃ g off cur, a = some ⟨g, off, none⟩ ∧ Blk w g t cur ∧ n ≤ cap ∧ ∀ j u, us[j]? = some u → w.cell? ⟨g, off + j, none⟩ = some u := by
  obtain ⟨h0, a', c, hv, h1, h2, h3⟩ := h
  simp only [Value.slice.injEq] at hv
  obtain ⟨rfl, _, rfl⟩ := hv
  rcases h3 with ⟨rfl, _⟩ | ⟨g, off, cur, rfl, hb, h4, h5⟩
  · omega
  · exact ⟨g, off, cur, rfl, hb, h1, fun j u hu => by rw [hb.cell]; exact h5 j u hu⟩
theorem QRow.form {w : World} {t : TypeId} {sz : Nat} {v : Value} {n : Nat} {us : List Value} (h : QRow w t sz v n us) : ∃ a cap, v = .slice a n cap ∧ n ≤ cap ∧ cap ≤ maxLen := by
  obtain ⟨h0, a, c, hv, h1, h2, h3⟩ := h
  exact ⟨a, c, hv, h1, h2⟩
end Go.Proofs.Ytkbnoceekileiaa
namespace Go.Proofs.Ytkbnoceekileiaa
open Go Go.RowKit
open Go.Joins Go.ChangeShapes Go.WideShapes Go.Deep
set_option linter.unusedVariables false
set_option linter.unusedSimpArgs false
/-- Each slice in the datum is as small as the row's reach says. -/
def Wt {H : Type} (P : Program) (t : TypeId) (d : DataW H) : Prop := ∀ n ∈ d.weights P t, n ≤ reachBytes
theorem Wt.arg {H : Type} {P : Program} {ts : List TypeId} {ds : List (DataW H)} (h : (DataW.weightsEach P ts ds).all (· ≤ reachBytes) = true) (j : Nat) {t : TypeId} {d : DataW H} (ht : ts[j]? = some t) (hd : ds[j]? = some d) : Wt P t d := fun n hn => by
  have := List.all_eq_true.1 h _ (DataW.weights_mem_each ht hd n hn)
  simpa using this
theorem Wt.field {H : Type} {P : Program} {t : TypeId} {fs : Array Field} {parts : List (DataW H)} (h : Wt P t (.agg parts)) (hu : P.underlying t = some (.struct fs)) (j : Nat) {f : Field} {d : DataW H} (hf : fs[j]? = some f) (hd : parts[j]? = some d) : Wt P f.type d := fun n hn => by
  refine h n ?_
  simp only [DataW.weights, hu]
  exact DataW.weights_mem_each (j := j) (by simp [hf]) hd n hn
theorem Wt.slice {H : Type} {P : Program} {t e : TypeId} {elems spare : List (DataW H)} (h : Wt P t (.slice elems spare)) (hu : P.underlying t = some (.slice e)) : (elems.length + spare.length) * P.bytesOf e ≤ reachBytes := by
  refine h _ ?_
  simp [DataW.weights, hu]
theorem mem_weightsAll {H : Type} {P : Program} {e : TypeId} {d : DataW H} {n : Nat} (hn : n ∈ d.weights P e) : ∀ {l : List (DataW H)}, d ∈ l → n ∈ DataW.weightsAll P e l
  | x :: r, hd => by
    simp only [DataW.weightsAll, List.mem_append]
    rcases List.mem_cons.1 hd with rfl | hd
    · exact .inl hn
    · exact .inr (mem_weightsAll hn hd)
theorem Wt.elem {H : Type} {P : Program} {t e : TypeId} {elems spare : List (DataW H)} (h : Wt P t (.slice elems spare)) (hu : P.underlying t = some (.slice e)) {d : DataW H} (hd : d ∈ elems) : Wt P e d := fun n hn => by
  refine h n ?_
  simp only [DataW.weights, hu, List.mem_cons, List.mem_append]
  exact .inr (.inl (mem_weightsAll hn hd))
/-- What could be read in w0 can be read on, while only blocks that were made since change. -/
theorem Rd.fr2 {S : Nat → Prop} {w0 w w' : World} {v : Value} {xs : List Int} (h0 : Rd w0 v xs) (h : Rd w v xs) (hf : Fr S w w') (hs : ∀ j, S j → w0.heap.size ≤ j) : Rd w' v xs := by
  rcases h with h | ⟨a, c, rfl, h1, h2, h3⟩
  · exact .inl h
  · refine .inr ⟨a, c, rfl, h1, h2, fun j hj => ?_⟩
    have hb : (a.add j).block = a.block := by unfold Addr.add; split <;> rfl
    refine hf.cell' (h3 j hj) (fun hx => ?_)
    rcases h0 with ⟨h0, _⟩ | ⟨a', c', h0, _, _, h4⟩
    · cases h0
    · simp only [Value.slice.injEq, Option.some.injEq] at h0
      obtain ⟨rfl, _, _⟩ := h0
      have := cell_lt (h4 j hj)
      have := hs _ hx
      omega
section
variable {H : Type} {enc : TypeId × Value → H} {P : Program} {w : World} {base : Nat} {spare : Nat → Bool} {held : Bool}
/-- A slice of whole numbers of 64 bits. -/
theorem Rd_of_trod {t e : TypeId} {fuel : Nat} {v : Value} {y : DataW H × List MemPlace} (ht : P.underlying t = some (.slice e)) (he : P.underlying e = some (.int .i64)) (hc : P.cellsOf e = 1) (hb : P.bytesOf e = 8)
    (h : DataW.trod enc P w base spare held fuel t [v] = some y) (hw : Wt P t y.1) : ∃ xs, Rd w v xs ∧ ∀ n ∈ xs, (Lit.int .i64 n).wf = true := by
  rcases open_ints ht he hc h with ⟨hcs, _⟩ | ⟨a, len, cap, zs, hcs, _, hl, hm, hz, hx, hcell, hwz⟩
  · simp at hcs; subst hcs
    exact ⟨[], .inl ⟨rfl, rfl⟩, by simp⟩
  · simp at hcs; subst hcs
    rw [hx] at hw
    have hs := hw.slice ht
    simp only [lits, List.length_map, hb] at hs
    have hzl : len ≤ zs.length := by rw [hz]; split <;> omega
    have hlen : (zs.take len).length = len := by simp; omega
    refine ⟨zs.take len, .inr ⟨a, cap, by rw [hlen], by omega, ?_, fun j hj => ?_⟩, fun n hn => hwz n (List.mem_of_mem_take hn)⟩
    · have hr : reachBytes = 140737488351232 := rfl
      rw [hlen]
      rw [hlen] at hs
      omega
    · rw [hcell j (by omega)]
      simp [List.getD, List.getElem?_take]
      rw [if_pos (by omega)]
theorem open_agg6 {r : Reach} {b0 : Nat} {t : TypeId} {f0 f1 f2 f3 f4 f5 : Field} {v : Value} {d : DataW H} {p : List MemPlace} (hs : P.underlying t = some (.struct #[f0, f1, f2, f3, f4, f5])) (hone : oneCellFields P #[f0, f1, f2, f3, f4, f5] = true) (hC : P.cellsOf t = 6)
    (hv : Value.okWide P w r b0 t v) (h : DataW.Trod enc P w base spare held t v d p) :
    ∃ (v0 v1 v2 v3 v4 v5 : Value) (y0 y1 y2 y3 y4 y5 : DataW H × List MemPlace) (n : Nat), v = .agg #[v0, v1, v2, v3, v4, v5] ∧ d = .agg [y0.1, y1.1, y2.1, y3.1, y4.1, y5.1] ∧
      DataW.trod enc P w base spare held n f0.type [v0] = some y0 ∧ DataW.trod enc P w base spare held n f1.type [v1] = some y1 ∧ DataW.trod enc P w base spare held n f2.type [v2] = some y2 ∧ DataW.trod enc P w base spare held n f3.type [v3] = some y3 ∧ DataW.trod enc P w base spare held n f4.type [v4] = some y4 ∧ DataW.trod enc P w base spare held n f5.type [v5] = some y5 := by
  obtain ⟨cs, rfl, hsz⟩ := okWide_struct hs hv
  obtain ⟨l⟩ := cs
  match l, hsz.trans hC with
  | [c0, c1, c2, c3, c4, c5], _ =>
    obtain ⟨fuel, hf⟩ := h
    obtain ⟨xs, n, _, hx, _, hlen, hg⟩ := DataW.trod_struct hs hf
    obtain ⟨o0, k0⟩ := hone_of hone 0 f0 rfl
    obtain ⟨o1, k1⟩ := hone_of hone 1 f1 rfl
    obtain ⟨o2, k2⟩ := hone_of hone 2 f2 rfl
    obtain ⟨o3, k3⟩ := hone_of hone 3 f3 rfl
    obtain ⟨o4, k4⟩ := hone_of hone 4 f4 rfl
    obtain ⟨o5, k5⟩ := hone_of hone 5 f5 rfl
    match xs, hlen with
    | [y0, y1, y2, y3, y4, y5], _ =>
      simp only [Prod.mk.injEq] at hx
      exact ⟨c0, c1, c2, c3, c4, c5, y0, y1, y2, y3, y4, y5, n, rfl, by simpa using hx.1, by simpa [Value.cells, o0, k0] using hg 0 f0 rfl, by simpa [Value.cells, o1, k1] using hg 1 f1 rfl, by simpa [Value.cells, o2, k2] using hg 2 f2 rfl, by simpa [Value.cells, o3, k3] using hg 3 f3 rfl, by simpa [Value.cells, o4, k4] using hg 4 f4 rfl, by simpa [Value.cells, o5, k5] using hg 5 f5 rfl⟩
theorem int_of_trod {t : TypeId} {k : IntKind} {fuel : Nat} {v : Value} {y : DataW H × List MemPlace} (ht : P.underlying t = some (.int k)) (h : DataW.trod enc P w base spare held fuel t [v] = some y) : ∃ n, v = .int k n ∧ (Lit.int k n).wf = true := by
  obtain ⟨n, hcs, _, hw⟩ := DataW.trod_int ht h
  simp at hcs
  exact ⟨n, hcs, hw⟩
end
end Go.Proofs.Ytkbnoceekileiaa
namespace Go.Proofs.Ytkbnoceekileiaa
open Go Go.RowKit
open Go.Joins Go.ChangeShapes Go.WideShapes Go.Deep
set_option linter.unusedVariables false
set_option linter.unusedSimpArgs false
/-- A slice of n elements of sz cells each that can be read: all its cells in a row. -/
def RdV (w : World) (v : Value) (n sz : Nat) (us : List Value) : Prop :=
  us.length = n * sz ∧ n ≤ maxLen ∧ ((v = .slice none 0 0 ∧ n = 0) ∨ ∃ a c, v = .slice (some a) n c ∧ n ≤ c ∧ ∀ j, j < n * sz → w.cell? (a.add j) = us[j]?)
theorem RdV.fr {S : Nat → Prop} {w w' : World} {v : Value} {n sz : Nat} {us : List Value} (h : RdV w v n sz us) (hf : Fr S w w') (hn : ∀ g, v.ownBlock = some g → g < w.heap.size → ¬ S g) : RdV w' v n sz us := by
  obtain ⟨h0, hm, h⟩ := h
  refine ⟨h0, hm, ?_⟩
  rcases h with h | ⟨a, c, rfl, h1, h3⟩
  · exact .inl h
  · refine .inr ⟨a, c, rfl, h1, fun j hj => ?_⟩
    have hb : (a.add j).block = a.block := by unfold Addr.add; split <;> rfl
    have hu : us[j]? = some (us[j]'(by omega)) := List.getElem?_eq_getElem (by omega)
    have h4 := h3 j hj
    rw [hu] at h4 ⊢
    exact hf.cell' h4 (by rw [hb]; exact hn a.block rfl (by have := cell_lt h4; rwa [hb] at this))
/-- The same, in a world in which only blocks changed that were made since w0. -/
theorem RdV.fr2 {S : Nat → Prop} {w0 w w' : World} {v : Value} {n sz : Nat} {us : List Value} (h0 : RdV w0 v n sz us) (h : RdV w v n sz us) (hsz : 0 < sz) (hf : Fr S w w') (hs : ∀ j, S j → w0.heap.size ≤ j) : RdV w' v n sz us := by
  by_cases hn : n = 0
  · subst hn
    obtain ⟨h1, hm, h2⟩ := h
    refine ⟨h1, hm, ?_⟩
    rcases h2 with h2 | ⟨a, c, rfl, h4, h3⟩
    · exact .inl h2
    · exact .inr ⟨a, c, rfl, h4, fun j hj => by simp at hj⟩
  · refine h.fr hf (fun g hg _ hx => ?_)
    obtain ⟨h1, _, h2⟩ := h0
    rcases h2 with ⟨rfl, _⟩ | ⟨a, c, rfl, h4, h3⟩
    · cases hg
    · simp only [Value.ownBlock, Option.some.injEq] at hg
      have h5 := h3 0 (Nat.mul_pos (by omega) hsz)
      rw [List.getElem?_eq_getElem (by rw [h1]; exact Nat.mul_pos (by omega) hsz)] at h5
      have := cell_lt h5
      have hb : (a.add 0).block = a.block := by unfold Addr.add; split <;> rfl
      have := hs _ hx
      omega
theorem RdV.len {w : World} {v : Value} {n sz : Nat} {us : List Value} (h : RdV w v n sz us) : ∃ a c, v = .slice a n c := by
  obtain ⟨h0, hm, h⟩ := h
  rcases h with ⟨rfl, rfl⟩ | ⟨a, c, rfl, _⟩
  · exact ⟨none, 0, rfl⟩
  · exact ⟨some a, c, rfl⟩
/-- The slice has an element: its address and its cells. -/
theorem RdV.at {w : World} {a : Option Addr} {n c sz : Nat} {us : List Value} (h : RdV w (.slice a n c) n sz us) (hn : 0 < n) : ∃ a', a = some a' ∧ n ≤ c ∧ ∀ j u, us[j]? = some u → w.cell? (a'.add j) = some u := by
  obtain ⟨h0, hm, h⟩ := h
  rcases h with ⟨_, rfl⟩ | ⟨a', c', h, h1, h3⟩
  · omega
  · simp only [Value.slice.injEq] at h
    obtain ⟨rfl, _, rfl⟩ := h
    exact ⟨a', rfl, h1, fun j u hu => by rw [h3 j (by have := (List.getElem?_eq_some_iff.1 hu).1; omega), hu]⟩
theorem RdV.short {w : World} {v : Value} {n sz : Nat} {us : List Value} (h : RdV w v n sz us) : n ≤ maxLen := h.2.1
section
variable {H : Type} {enc : TypeId × Value → H} {P : Program} {w : World} {base : Nat} {spare : Nat → Bool} {held : Bool}
/-- A slice of whole numbers of one kind. -/
theorem RdV_ints {r : Reach} {b0 : Nat} {t e : TypeId} {k : IntKind} {v : Value} {d : DataW H} {p : List MemPlace} (ht : P.underlying t = some (.slice e)) (he : P.underlying e = some (.int k)) (hc : P.cellsOf e = 1) (hv : Value.okWide P w r b0 t v)
    (h : DataW.Trod enc P w base spare held t v d p) : ∃ xs : List Int, RdV w v xs.length 1 (xs.map (Value.int k)) ∧ ∀ n ∈ xs, (Lit.int k n).wf = true := by
  obtain ⟨a0, len0, cap0, rfl⟩ := okWide_slice ht hv
  obtain ⟨fuel, hf⟩ := h
  rcases open_ints ht he hc hf with ⟨hcs, _⟩ | ⟨a, len, cap, zs, hcs, _, hl, hm, hz, hx, hcell, hwz⟩
  · simp [Value.cells] at hcs
    obtain ⟨rfl, rfl, rfl⟩ := hcs
    exact ⟨[], ⟨rfl, by simp, .inl ⟨rfl, rfl⟩⟩, by simp⟩
  · simp [Value.cells] at hcs
    obtain ⟨rfl, rfl, rfl⟩ := hcs
    have hzl : len0 ≤ zs.length := by rw [hz]; split <;> omega
    have hlen : (zs.take len0).length = len0 := by simp; omega
    refine ⟨zs.take len0, ⟨by simp, by omega, .inr ⟨a, cap0, by rw [hlen], by omega, fun j hj => ?_⟩⟩, fun n hn => hwz n (List.mem_of_mem_take hn)⟩
    have hj' : j < len0 := by omega
    rw [hcell j (by omega)]
    simp [List.getD, List.getElem?_take, hj', List.getElem?_eq_getElem (show j < zs.length by omega)]
theorem open_slice_fields {t e : TypeId} {fs : Array Field} {fuel : Nat} {cs : List Value} {x : DataW H × List MemPlace} (ht : P.underlying t = some (.slice e)) (he : P.underlying e = some (.struct fs))
    (hone : oneCellFields P fs = true) (hC : P.cellsOf e = fs.size) (h : DataW.trod enc P w base spare held fuel t cs = some x) :
    (cs = [.slice none 0 0] ∧ x = (.nil, [])) ∨
    ∃ (a : Addr) (len cap : Nat) (V : Nat → Nat → Value), cs = [.slice (some a) len cap] ∧ len ≤ cap ∧ cap ≤ maxLen ∧
      ∀ i, i < len → ∀ (j : Nat) (f : Field), fs[j]? = some f → ∃ (n : Nat) (y : DataW H × List MemPlace), w.cell? (a.add (i * fs.size + j)) = some (V i j) ∧ DataW.trod enc P w base spare held n f.type [V i j] = some y := by
  rcases open_slice ht h with h0 | ⟨a, len, cap, m, n, D, Pl, hcs, hb, hl, hm, hmm, hx, hi⟩
  · exact .inl h0
  · refine .inr ⟨a, len, cap, fun i j => (w.cell? (a.add (i * fs.size + j))).getD (.bool false), hcs, hl, hm, fun i hil j f hj => ?_⟩
    obtain ⟨cs', hc, ht'⟩ := hi i (by rw [hmm]; split <;> omega)
    rw [hC] at hc
    obtain ⟨ys, n', hn', hy, hlen, hyl, hf⟩ := DataW.trod_struct he ht'
    obtain ⟨_, hcl, hat⟩ := World.cells?_some hc
    obtain ⟨ho, hk⟩ := hone_of hone j f hj
    have hjl : j < fs.size := (Array.getElem?_eq_some_iff.1 hj).1
    have hcell := hat j hjl
    have hv : cs'[j]? = some (cs'[j]'(by omega)) := List.getElem?_eq_getElem (by omega)
    have h1 := hf j f hj
    rw [ho, hk] at h1
    have hone' : (cs'.drop j).take 1 = [cs'[j]'(by omega)] := by
      rw [List.drop_eq_getElem_cons (by omega)]
      rfl
    rw [hone'] at h1
    have hys : ys[j]? = some (ys[j]'(by omega)) := List.getElem?_eq_getElem (by omega)
    have hcv : w.cell? (a.add (i * fs.size + j)) = some (cs'[j]'(by omega)) := by rw [← Go.Deep.add_add, hcell, hv]
    refine ⟨n', ys[j]'(by omega), ?_, ?_⟩
    · simp only [hcv, Option.getD_some]
    · simp only [hcv, Option.getD_some]
      exact h1.trans hys
end
end Go.Proofs.Ytkbnoceekileiaa
namespace Go.Proofs.Ytkbnoceekileiaa
open Go Go.RowKit
set_option linter.unusedVariables false
set_option linter.unusedSimpArgs false
theorem run_append_any {P : Program} (w : World) (t ty e : TypeId) (i : TypeInfo) (z : Value) (size bytes : Nat) (ht : P.underlying t = some (.slice e)) (hi : P.info? e = some i) (hz : i.zero = some z)
    (hsize : i.size = size) (hby : i.bytes = bytes) (hzs : z.cells.size = size) (hsz : 0 < size) (v : Value) (n : Nat) (us : List Value) (hq : QRow w e size v n us)
    (x : Value) (m : Nat) (news : List Value) (hx : RdV w x m size news) (h1 : ∀ u ∈ news, u.oneCell' = true)
    (h63 : n + m ≤ maxLen) (hbytes : (n + m) * bytes ≤ 140737488355328) :
    ∃ v' w', (Builtin.append_ #[t, t] ty #[v, x]).run P w = .ok v' w' ∧ QRow w' e size v' (n + m) (us ++ news) ∧ w.grownBy w' v.ownBlock ∧ (∀ g, v'.ownBlock = some g → v.ownBlock = some g ∨ (w.heap.size ≤ g ∧ g < w'.heap.size)) := by
  by_cases hm : m = 0
  · subst hm
    obtain ⟨h0, _, hv⟩ := hx
    obtain rfl : news = [] := List.eq_nil_of_length_eq_zero (by simpa using h0)
    have hq' := hq
    obtain ⟨h0', a, cap, rfl, hnc, hcm, h3⟩ := hq
    refine ⟨_, w, ?_, by simpa using hq', World.grownBy.refl _ _, fun g hg => .inl hg⟩
    rcases hv with ⟨rfl, _⟩ | ⟨b, c, rfl, _, _⟩
    · exact run_append_nothing w t t ty e i ht hi a n cap hnc _ (Src.ofNil w ht 0)
    · exact run_append_nothing w t t ty e i ht hi a n cap hnc _ (Src.ofSlice w ht b 0 c [] (by simp) (by simp) (by simp))
  · obtain ⟨h0, _, hv⟩ := hx
    rcases hv with ⟨_, rfl⟩ | ⟨b, c, rfl, _, hcell⟩
    · exact absurd rfl hm
    · obtain ⟨g, off, cap, w', r1, r2, r3, r4, r5⟩ := run_append_q (P := P) w t ty e i z size bytes ht hi hz hsize hby hzs hsz v n us hq b m c news h0 (fun j u hu => by rw [hcell j (by have := (List.getElem?_eq_some_iff.1 hu).1; omega), hu]) h1 (by omega) h63 hbytes
      refine ⟨_, w', r1, r2, r3, fun g' hg => ?_⟩
      simp only [Value.ownBlock, Option.some.injEq] at hg
      subst hg
      rcases r4 with r4 | r4
      · exact .inl r4
      · exact .inr ⟨r4, r5⟩
section
variable {P : Program} (w : World)
theorem wp_append_any {o : Oper} {a : Act} {K : Act → World → Prop} {Q : Exit → Act → World → Prop} (s x : Operand) (t : TypeId)
    (ho : o.op = .call { callee := .builtin .append, args := #[s, x], argTypes := #[t, t] })
    (e : TypeId) (i : TypeInfo) (z : Value) (size bytes : Nat) (ht : P.underlying t = some (.slice e)) (hi : P.info? e = some i) (hz : i.zero = some z)
    (hsize : i.size = size) (hby : i.bytes = bytes) (hzs : z.cells.size = size) (hsz : 0 < size)
    (v : Value) (n : Nat) (us : List Value) (hs : a.eval s = v) (hq : QRow w e size v n us)
    (xv : Value) (m : Nat) (news : List Value) (hx : a.eval x = xv) (hr : RdV w xv m size news) (h1 : ∀ u ∈ news, u.oneCell' = true)
    (h63 : n + m ≤ maxLen) (hbytes : (n + m) * bytes ≤ 140737488355328)
    (h : ∀ a' c' w', QRow w' e size (.slice a' (n + m) c') (n + m) (us ++ news) → w.grownBy w' v.ownBlock → (∀ g, (Value.slice a' (n + m) c').ownBlock = some g → v.ownBlock = some g ∨ (w.heap.size ≤ g ∧ g < w'.heap.size)) → K (a.put o.dst (.slice a' (n + m) c')) w') : o.wp P a w K Q := by
  obtain ⟨v', w', hrun, h2, h3, h4⟩ := run_append_any (P := P) w t o.type e i z size bytes ht hi hz hsize hby hzs hsz v n us hq xv m news hr h1 h63 hbytes
  obtain ⟨a', c', rfl, _, _⟩ := h2.form
  unfold Oper.wp execOp
  simp only [ho, resolve, invoke, builtin, Sem.run_bind, Sem.run_pure, Result.andThen_ok, List.map_toArray, List.map_cons, List.map_nil, hs, hx, hrun]
  exact h a' c' w' h2 h3 h4
theorem wpList_append_any {ops : Array Oper} {rest : List Oper} {o : Oper} {a : Act} {Q : Exit → Act → World → Prop} (hgd : o.guard = none) (s x : Operand) (t : TypeId)
    (ho : o.op = .call { callee := .builtin .append, args := #[s, x], argTypes := #[t, t] })
    (e : TypeId) (i : TypeInfo) (z : Value) (size bytes : Nat) (ht : P.underlying t = some (.slice e)) (hi : P.info? e = some i) (hz : i.zero = some z)
    (hsize : i.size = size) (hby : i.bytes = bytes) (hzs : z.cells.size = size) (hsz : 0 < size)
    (v : Value) (n : Nat) (us : List Value) (hs : a.eval s = v) (hq : QRow w e size v n us)
    (xv : Value) (m : Nat) (news : List Value) (hx : a.eval x = xv) (hr : RdV w xv m size news) (h1 : ∀ u ∈ news, u.oneCell' = true)
    (h63 : n + m ≤ maxLen) (hbytes : (n + m) * bytes ≤ 140737488355328)
    (h : ∀ a' c' w', QRow w' e size (.slice a' (n + m) c') (n + m) (us ++ news) → w.grownBy w' v.ownBlock → (∀ g, (Value.slice a' (n + m) c').ownBlock = some g → v.ownBlock = some g ∨ (w.heap.size ≤ g ∧ g < w'.heap.size)) → wpList P ops Q rest (a.put o.dst (.slice a' (n + m) c')) w') : wpList P ops Q (o :: rest) a w :=
  wpList_plain hgd fun _ hK => wp_append_any w s x t ho e i z size bytes ht hi hz hsize hby hzs hsz v n us hs hq xv m news hx hr h1 h63 hbytes fun a' c' w' h2 h3 h4 => hK _ _ (h a' c' w' h2 h3 h4)
theorem step_append_any {ops : Array Oper} {o : Oper} {a : Act} {K : Act → World → Prop} {Q : Exit → Act → World → Prop} {E : Prop} (hgd : o.guard = none) (s x : Operand) (t : TypeId)
    (ho : o.op = .call { callee := .builtin .append, args := #[s, x], argTypes := #[t, t] })
    (e : TypeId) (i : TypeInfo) (z : Value) (size bytes : Nat) (ht : P.underlying t = some (.slice e)) (hi : P.info? e = some i) (hz : i.zero = some z)
    (hsize : i.size = size) (hby : i.bytes = bytes) (hzs : z.cells.size = size) (hsz : 0 < size)
    (v : Value) (n : Nat) (us : List Value) (hs : a.eval s = v) (hq : QRow w e size v n us)
    (xv : Value) (m : Nat) (news : List Value) (hx : a.eval x = xv) (hr : RdV w xv m size news) (h1 : ∀ u ∈ news, u.oneCell' = true)
    (h63 : n + m ≤ maxLen) (hbytes : (n + m) * bytes ≤ 140737488355328)
    (h : ∀ a' c' w', QRow w' e size (.slice a' (n + m) c') (n + m) (us ++ news) → w.grownBy w' v.ownBlock → (∀ g, (Value.slice a' (n + m) c').ownBlock = some g → v.ownBlock = some g ∨ (w.heap.size ≤ g ∧ g < w'.heap.size)) → K (a.put o.dst (.slice a' (n + m) c')) w') :
    if Region.wanted o (yielded ops a.tmps) = true then Oper.wp P o a w K Q else E := by
  have hw : Region.wanted o (yielded ops a.tmps) = true := by simp [Region.wanted, hgd]
  rw [if_pos hw]
  exact wp_append_any w s x t ho e i z size bytes ht hi hz hsize hby hzs hsz v n us hs hq xv m news hx hr h1 h63 hbytes h
end
/-- A block that was just laid, as a slice that can be read. -/
theorem RdV.block {w : World} {g m sz : Nat} {t : TypeId} {cs : Array Value} (h : Blk w g t cs) (hl : cs.size = m * sz) (hm : m ≤ maxLen) : RdV w (.slice (some ⟨g, 0, none⟩) m m) m sz cs.toList :=
  ⟨by simpa using hl, hm, .inr ⟨_, m, rfl, Nat.le_refl _, fun j hj => by rw [add_lit, h.cell]; simp⟩⟩
/-- What one owns can be read. -/
theorem QRow.rdv {w : World} {t : TypeId} {sz : Nat} {v : Value} {n : Nat} {us : List Value} (h : QRow w t sz v n us) : RdV w v n sz us := by
  obtain ⟨h0, a, cap, rfl, h1, h2, h3⟩ := h
  refine ⟨h0, by omega, ?_⟩
  rcases h3 with ⟨rfl, h3⟩ | ⟨g, off, cur, rfl, hb, h4, h5⟩
  · obtain rfl : n = 0 := by omega
    rcases h3 with rfl | ⟨b, rfl⟩
    · exact .inl ⟨rfl, rfl⟩
    · exact .inr ⟨b, 0, rfl, Nat.le_refl _, fun j hj => by simp at hj⟩
  · refine .inr ⟨_, cap, rfl, h1, fun j hj => ?_⟩
    have hu : us[j]? = some (us[j]'(by omega)) := List.getElem?_eq_getElem (by omega)
    rw [Addr.add_lit, hb.cell, hu]
    exact h5 _ _ hu
end Go.Proofs.Ytkbnoceekileiaa
namespace Go.Proofs.Ytkbnoceekileiaa
open Go Go.RowKit
set_option linter.unusedVariables false
set_option linter.unusedSimpArgs false
/-- These pieces, each with blocks of its own, all among S. -/
def Many (w : World) (l : List Piece) (S : Nat → Prop) : Prop :=
  ∃ σ : Nat → Nat → Prop, (∀ (i : Nat) (P : Piece), l[i]? = some P → P.holds w (σ i)) ∧ (∀ i k, σ i k → S k ∧ k < w.heap.size) ∧ (∀ i j k, σ i k → σ j k → i = j)
theorem Many.keep {w w' : World} {l : List Piece} {S F : Nat → Prop} (h : Many w l S) (hf : Fr F w w') (hn : ∀ k, S k → ¬ F k) : Many w' l S := by
  obtain ⟨σ, h1, h2, h3⟩ := h
  exact ⟨σ, fun i P hi => P.keep (h1 i P hi) hf (fun k hk => hn k (h2 i k hk).1) (fun k hk => (h2 i k hk).2), fun i k hk => ⟨(h2 i k hk).1, Nat.lt_of_lt_of_le (h2 i k hk).2 hf.size⟩, h3⟩
theorem Many.more {w : World} {l : List Piece} {S S' : Nat → Prop} (h : Many w l S) (hs : ∀ k, S k → S' k) : Many w l S' := by
  obtain ⟨σ, h1, h2, h3⟩ := h
  exact ⟨σ, h1, fun i k hk => ⟨hs k (h2 i k hk).1, (h2 i k hk).2⟩, h3⟩
theorem Many.nil (w : World) (S : Nat → Prop) : Many w [] S := ⟨fun _ _ => False, fun i P h => by simp at h, fun _ _ h => h.elim, fun _ _ _ h => h.elim⟩
theorem Many.push {w w' : World} {l : List Piece} {S S' : Nat → Prop} (h : Many w l S) (hf : Fr nob w w') {p : Piece} {T : Nat → Prop} (hp : p.holds w' T) (hs : ∀ k, T k → w.heap.size ≤ k ∧ k < w'.heap.size) (h1' : ∀ k, S k → S' k) (h2' : ∀ k, T k → S' k) : Many w' (l ++ [p]) S' := by
  obtain ⟨σ, h1, h2, h3⟩ := h
  refine ⟨fun i k => if i < l.length then σ i k else if i = l.length then T k else False, fun i P hi => ?_, fun i k hk => ?_, fun i j k hi hj => ?_⟩
  · by_cases hl : i < l.length
    · simp only [hl, if_true]
      rw [List.getElem?_append_left hl] at hi
      exact P.keep (h1 i P hi) hf (fun _ _ x => x) (fun k hk => (h2 i k hk).2)
    · have : i = l.length := by
        have := (List.getElem?_eq_some_iff.1 hi).1
        simp at this; omega
      subst this
      simp at hi
      subst hi
      simpa using hp
  · simp only at hk
    split at hk
    · exact ⟨h1' k (h2 i k hk).1, Nat.lt_of_lt_of_le (h2 i k hk).2 hf.size⟩
    · split at hk
      · exact ⟨h2' k hk, (hs k hk).2⟩
      · exact hk.elim
  · simp only at hi hj
    split at hi <;> split at hj
    · exact h3 i j k hi hj
    · split at hj
      · have := (h2 i k hi).2; have := (hs k hj).1; omega
      · exact hj.elim
    · split at hi
      · have := (h2 j k hj).2; have := (hs k hi).1; omega
      · exact hi.elim
    · split at hi
      · split at hj
        · omega
        · exact hj.elim
      · exact hi.elim
/-- A piece is taken; what becomes of it is given back. -/
theorem Many.take {w : World} {l : List Piece} {S : Nat → Prop} (h : Many w l S) (i : Nat) {p : Piece} (hi : l[i]? = some p) : ∃ T : Nat → Prop, p.holds w T ∧ (∀ k, T k → S k ∧ k < w.heap.size) ∧
    ∀ {w' : World} {p' : Piece} {T' S' : Nat → Prop}, Fr T w w' → p'.holds w' T' → (∀ k, T' k → T k ∨ (w.heap.size ≤ k ∧ k < w'.heap.size)) → (∀ k, S k → S' k) → (∀ k, T' k → S' k) → Many w' (l.set i p') S' := by
  obtain ⟨σ, h1, h2, h3⟩ := h
  refine ⟨σ i, h1 i p hi, h2 i, fun {w' p' T' S'} hf hp hs hS hT => ?_⟩
  have hil := (List.getElem?_eq_some_iff.1 hi).1
  refine ⟨fun j k => if j = i then T' k else σ j k, fun j P hj => ?_, fun j k hk => ?_, fun j j' k hj hj' => ?_⟩
  · by_cases hji : j = i
    · subst hji
      rw [List.getElem?_set_self hil] at hj
      simp at hj
      subst hj
      simpa using hp
    · rw [List.getElem?_set_ne (fun x => hji x.symm)] at hj
      simp only [hji, if_false]
      exact P.keep (h1 j P hj) hf (fun k hk hx => hji (h3 j i k hk hx)) (fun k hk => (h2 j k hk).2)
  · simp only at hk
    split at hk
    · refine ⟨hT k hk, ?_⟩
      rcases hs k hk with hk | hk
      · exact Nat.lt_of_lt_of_le (h2 i k hk).2 hf.size
      · exact hk.2
    · exact ⟨hS k (h2 j k hk).1, Nat.lt_of_lt_of_le (h2 j k hk).2 hf.size⟩
  · simp only at hj hj'
    split at hj <;> split at hj'
    · omega
    · rcases hs k hj with hk | hk
      · have := h3 i j' k hk hj'; omega
      · have := (h2 j' k hj').2; omega
    · rcases hs k hj' with hk | hk
      · have := h3 i j k hk hj; omega
      · have := (h2 j k hj).2; omega
    · exact h3 j j' k hj hj'
theorem Many.get {w : World} {l : List Piece} {S : Nat → Prop} (h : Many w l S) (i : Nat) {p : Piece} (hi : l[i]? = some p) : ∃ T : Nat → Prop, p.holds w T ∧ (∀ k, T k → S k ∧ k < w.heap.size) := by
  obtain ⟨T, h1, h2, _⟩ := h.take i hi
  exact ⟨T, h1, h2⟩
/-- Two different pieces have no block in common. -/
theorem Many.two {w : World} {l : List Piece} {S : Nat → Prop} (h : Many w l S) (i j : Nat) (hij : i ≠ j) {p q : Piece} (hi : l[i]? = some p) (hj : l[j]? = some q) : ∃ T U : Nat → Prop, p.holds w T ∧ q.holds w U ∧ (∀ k, T k → ¬ U k) ∧ (∀ k, T k → S k ∧ k < w.heap.size) ∧ (∀ k, U k → S k ∧ k < w.heap.size) := by
  obtain ⟨σ, h1, h2, h3⟩ := h
  exact ⟨σ i, σ j, h1 i p hi, h1 j q hj, fun k hk hx => hij (h3 i j k hk hx), h2 i, h2 j⟩
/-- All together are a piece. -/
def manyP (l : List Piece) : Piece := ⟨fun w S => Many w l S, fun h hf hn _ => h.keep hf hn⟩
/-- A slice that one owns. -/
def rowP (t : TypeId) (sz : Nat) (v : Value) (n : Nat) (us : List Value) : Piece where
  holds w S := QRow w t sz v n us ∧ ∀ g, v.ownBlock = some g → S g ∧ ∃ c, Blk w g t c
  keep h hf hn _ := ⟨h.1.fr hf (fun g hg _ => hn g (h.2 g hg).1), fun g hg => ⟨(h.2 g hg).1, by obtain ⟨_, c, hc⟩ := h.2 g hg; exact ⟨c, hc.fr hf (hn g (h.2 g hg).1)⟩⟩⟩
/-- A slice that can be read. -/
def rdP (sz : Nat) (v : Value) (n : Nat) (us : List Value) : Piece where
  holds w S := RdV w v n sz us ∧ ∀ g, v.ownBlock = some g → S g
  keep h hf hn _ := ⟨h.1.fr hf (fun g hg _ => hn g (h.2 g hg)), h.2⟩
/-- One cell of a row is another one. -/
theorem QRow.put {w : World} {t : TypeId} {sz g off n cap : Nat} {us : List Value} (h : QRow w t sz (.slice (some ⟨g, off, none⟩) n cap) n us) (j : Nat) (hj : j < n * sz) (x : Value) :
    QRow (w.setCell ⟨g, off + j, none⟩ x) t sz (.slice (some ⟨g, off, none⟩) n cap) n (us.set j x) := by
  obtain ⟨h0, a, c, hv, h1, h2, h3⟩ := h
  simp only [Value.slice.injEq] at hv
  obtain ⟨rfl, _, rfl⟩ := hv
  rcases h3 with ⟨rfl, _⟩ | ⟨g', off', cur, hg, hb, h4, h5⟩
  · have : n = 0 := by omega
    subst this; simp at hj
  · simp only [Option.some.injEq, Addr.mk.injEq] at hg
    obtain ⟨rfl, rfl, _⟩ := hg
    refine ⟨by rw [List.length_set]; exact h0, _, cap, rfl, h1, h2, .inr ⟨g, off, _, rfl, hb.set _ x, by simpa using h4, fun i u hu => ?_⟩⟩
    have hil : i < us.length := by
      have := (List.getElem?_eq_some_iff.1 hu).1
      simpa using this
    by_cases hij : j = i
    · subst hij
      rw [List.getElem?_set_self hil] at hu
      have hlt : off + j < cur.size := by
        have := h5 j _ (List.getElem?_eq_getElem hil)
        exact (Array.getElem?_eq_some_iff.1 this).1
      rw [Array.getElem?_setIfInBounds_self_of_lt hlt]
      exact hu
    · rw [List.getElem?_set_ne hij] at hu
      rw [Array.getElem?_setIfInBounds_ne (by omega)]
      exact h5 i u hu
/-- Nothing. -/
def nilP : Piece := ⟨fun _ _ => True, fun _ _ _ _ => trivial⟩
/-- The last pieces, as one. -/
theorem Heap.pack {w0 w : World} {l m : List Piece} (h : Heap w0 w (l ++ m)) : Heap w0 w (l ++ [manyP m]) := by
  obtain ⟨f, σ, h1, h2, h3⟩ := h
  refine ⟨f, fun i k => if i < l.length then σ i k else if i = l.length then ∃ j, l.length ≤ j ∧ σ j k else False, fun i P hi => ?_, fun i k hk => ?_, fun i j k hi hj => ?_⟩
  · by_cases hl : i < l.length
    · simp only [hl, if_true]
      rw [List.getElem?_append_left hl] at hi
      exact h1 i P (by rw [List.getElem?_append_left hl]; exact hi)
    · have : i = l.length := by
        have := (List.getElem?_eq_some_iff.1 hi).1
        simp at this; omega
      subst this
      simp at hi
      subst hi
      simp only [Nat.lt_irrefl, if_false, if_true]
      refine ⟨fun j => σ (l.length + j), fun j P hj => h1 _ P (by rw [List.getElem?_append_right (by omega)]; simpa using hj), fun j k hk => ⟨⟨_, Nat.le_add_right _ _, hk⟩, (h2 _ k hk).2⟩, fun i j k hi hj => ?_⟩
      have := h3 _ _ k hi hj
      omega
  · simp only at hk
    split at hk
    · exact h2 i k hk
    · split at hk
      · obtain ⟨j, _, hj⟩ := hk; exact h2 j k hj
      · exact hk.elim
  · simp only at hi hj
    split at hi <;> split at hj
    · exact h3 i j k hi hj
    · split at hj
      · obtain ⟨j', hj1, hj2⟩ := hj
        have := h3 i j' k hi hj2; omega
      · exact hj.elim
    · split at hi
      · obtain ⟨i', hi1, hi2⟩ := hi
        have := h3 i' j k hi2 hj; omega
      · exact hi.elim
    · split at hi
      · split at hj
        · omega
        · exact hj.elim
      · exact hi.elim
/-- What reads, instead of what owns. -/
theorem rowP_rd {w : World} {S : Nat → Prop} {t : TypeId} {sz : Nat} {v : Value} {n : Nat} {us : List Value} (h : (rowP t sz v n us).holds w S) : (rdP sz v n us).holds w S := ⟨h.1.rdv, fun g hg => (h.2 g hg).1⟩
/-- A cloned slice, as a new piece. -/
theorem Heap.pushRow {w0 w w' : World} {l : List Piece} (h : Heap w0 w l) {t : TypeId} {sz n : Nat} {v : Value} {us : List Value} (hf : Fr nob w w') (hq : QRow w' t sz v n us) (hb : ∀ g, v.ownBlock = some g → w.heap.size ≤ g ∧ g < w'.heap.size ∧ ∃ c, Blk w' g t c) : Heap w0 w' (l ++ [rowP t sz v n us]) :=
  h.push (S := fun k => v.ownBlock = some k) hf ⟨hq, fun g hg => ⟨hg, (hb g hg).2.2⟩⟩ (fun k hk => ⟨(hb k hk).1, (hb k hk).2.1⟩)
theorem Heap.row {w0 w : World} {l : List Piece} (h : Heap w0 w l) (i : Nat) {t : TypeId} {sz n : Nat} {v : Value} {us : List Value} (hi : l[i]? = some (rowP t sz v n us)) : QRow w t sz v n us := by
  obtain ⟨S, h1, _⟩ := h.get i hi
  exact h1.1
/-- The pieces in another order, or some of them. -/
theorem Heap.idx {w0 w : World} {l l' : List Piece} (h : Heap w0 w l) (f : Nat → Nat) (hf : ∀ i, i < l'.length → l'[i]? = l[f i]?) (hi : ∀ i j, i < l'.length → j < l'.length → f i = f j → i = j) : Heap w0 w l' := by
  obtain ⟨fr, σ, h1, h2, h3⟩ := h
  refine ⟨fr, fun i k => i < l'.length ∧ σ (f i) k, fun i P hP => ?_, fun i k hk => h2 _ k hk.2, fun i j k a b => hi i j a.1 b.1 (h3 _ _ k a.2 b.2)⟩
  have hlt := (List.getElem?_eq_some_iff.1 hP).1
  have := h1 (f i) P (by rw [← hf i hlt]; exact hP)
  simpa [hlt] using this
theorem Heap.swap12 {w0 w : World} {l : List Piece} {a b c : Piece} (h : Heap w0 w (l ++ [a, b, c])) : Heap w0 w (l ++ [b, a, c]) := by
  refine h.idx (fun i => if i = l.length then l.length + 1 else if i = l.length + 1 then l.length else i) (fun i hi => ?_) (fun i j hi hj e => ?_)
  · by_cases h1 : i < l.length
    · simp only [show i ≠ l.length from by omega, show i ≠ l.length + 1 from by omega, if_false]
      rw [List.getElem?_append_left h1, List.getElem?_append_left h1]
    · simp at hi
      rcases (by omega : i = l.length ∨ i = l.length + 1 ∨ i = l.length + 2) with rfl | rfl | rfl <;> simp
  · try simp only at e
    split at e <;> split at e <;> (try split at e) <;> (try split at e) <;> omega
theorem Heap.swap23 {w0 w : World} {l : List Piece} {a b c : Piece} (h : Heap w0 w (l ++ [a, b, c])) : Heap w0 w (l ++ [a, c, b]) := by
  refine h.idx (fun i => if i = l.length + 1 then l.length + 2 else if i = l.length + 2 then l.length + 1 else i) (fun i hi => ?_) (fun i j hi hj e => ?_)
  · by_cases h1 : i < l.length
    · simp only [show i ≠ l.length + 1 from by omega, show i ≠ l.length + 2 from by omega, if_false]
      rw [List.getElem?_append_left h1, List.getElem?_append_left h1]
    · simp at hi
      rcases (by omega : i = l.length ∨ i = l.length + 1 ∨ i = l.length + 2) with rfl | rfl | rfl <;> simp
  · try simp only at e
    split at e <;> split at e <;> (try split at e) <;> (try split at e) <;> omega
/-- Without some pieces in the middle. -/
theorem Heap.mid {w0 w : World} {l m r : List Piece} (h : Heap w0 w (l ++ m ++ r)) : Heap w0 w (l ++ r) := by
  refine h.idx (fun i => if i < l.length then i else i + m.length) (fun i hi => ?_) (fun i j hi hj e => ?_)
  · by_cases h1 : i < l.length
    · simp only [h1, if_true]
      rw [List.append_assoc, List.getElem?_append_left h1, List.getElem?_append_left h1]
    · simp only [h1, if_false]
      rw [List.getElem?_append_right (by omega), List.getElem?_append_right (by simp; omega)]
      congr 1
      simp; omega
  · try simp only at e
    split at e <;> split at e <;> omega
theorem get_last {α : Type} (l : List α) (x : α) : (l ++ [x])[l.length]? = some x := by simp
theorem get_left {α : Type} {l m : List α} {i : Nat} {x : α} (h : l[i]? = some x) : (l ++ m)[i]? = some x := by
  rw [List.getElem?_append_left (List.getElem?_eq_some_iff.1 h).1]; exact h
theorem Heap.set1 {w0 w : World} {l m : List Piece} (h : Heap w0 w (l ++ m)) (j : Nat) {b : Nat} {t : TypeId} {c : Array Value} (hj : l[j]? = some (blkP b t c)) (o : Nat) (u : Value) : Heap w0 (w.setCell ⟨b, o, none⟩ u) (l.set j (blkP b t (c.setIfInBounds o u)) ++ m) := by
  have := h.setCell j (get_left hj) o u
  rwa [List.set_append_left _ _ (List.getElem?_eq_some_iff.1 hj).1] at this
theorem get_set {α : Type} {l : List α} {j : Nat} {x : α} (h : l[j]? = some x) (y : α) : (l.set j y)[j]? = some y := List.getElem?_set_self (List.getElem?_eq_some_iff.1 h).1
theorem Heap.set3 {w0 w : World} {l m : List Piece} (h : Heap w0 w (l ++ m)) (j : Nat) {b : Nat} {t : TypeId} {v0 v1 v2 v3 v4 : Value} (hj : l[j]? = some (blkP b t #[v0, v1, v2, v3, v4])) (x2 x3 x4 : Value) : Heap w0 (((w.setCell ⟨b, 2, none⟩ x2).setCell ⟨b, 3, none⟩ x3).setCell ⟨b, 4, none⟩ x4) (l.set j (blkP b t #[v0, v1, x2, x3, x4]) ++ m) := by
  have h1 := ((h.set1 j hj 2 x2).set1 j (get_set hj _) 3 x3).set1 j (get_set (get_set hj _) _) 4 x4
  rwa [List.set_set, List.set_set] at h1
theorem Heap.set5 {w0 w : World} {l m : List Piece} (h : Heap w0 w (l ++ m)) (j : Nat) {b : Nat} {t : TypeId} {v0 v1 v2 v3 v4 : Value} (hj : l[j]? = some (blkP b t #[v0, v1, v2, v3, v4])) (x0 x1 x2 x3 x4 : Value) : Heap w0 (((((w.setCell ⟨b, 0, none⟩ x0).setCell ⟨b, 1, none⟩ x1).setCell ⟨b, 2, none⟩ x2).setCell ⟨b, 3, none⟩ x3).setCell ⟨b, 4, none⟩ x4) (l.set j (blkP b t #[x0, x1, x2, x3, x4]) ++ m) := by
  have h1 := ((((h.set1 j hj 0 x0).set1 j (get_set hj _) 1 x1).set1 j (get_set (get_set hj _) _) 2 x2).set1 j (get_set (get_set (get_set hj _) _) _) 3 x3).set1 j (get_set (get_set (get_set (get_set hj _) _) _) _) 4 x4
  rwa [List.set_set, List.set_set, List.set_set, List.set_set] at h1
end Go.Proofs.Ytkbnoceekileiaa
namespace Go.Proofs.Ytkbnoceekileiaa
open Go Go.RowKit
set_option linter.unusedVariables false
set_option linter.unusedSimpArgs false
/-- Work over what all share. -/
inductive Prog (σ α : Type) where
  | ret (v : α)
  | ask (f : σ → Int × σ) (k : Int → Prog σ α)
  | stuck
/-- How far a thread is in a Step: what it was answered, how much of it was told again, whether its touch is done; what all share. -/
structure Tst (σ : Type) where
  log : List Int
  at' : Nat
  spent : Bool
  sh : σ
inductive Res (α : Type) where
  | done (v : α)
  | wait
  | stuck
section
variable {σ α β : Type}
/-- One ask. -/
def askT (f : σ → Int × σ) (x : Tst σ) : Option Int × Tst σ :=
  if x.at' < x.log.length then (some (x.log.getD x.at' 0), { x with at' := x.at' + 1 })
  else if x.spent = true then (none, x)
  else (some (f x.sh).1, ⟨x.log ++ [(f x.sh).1], x.at' + 1, true, (f x.sh).2⟩)
def Prog.run : Prog σ α → Tst σ → Res α × Tst σ
  | .ret v, x => (.done v, x)
  | .stuck, x => (.stuck, x)
  | .ask f k, x => match askT f x with
    | (some n, x') => (k n).run x'
    | (none, x') => (.wait, x')
def Prog.bind : Prog σ α → (α → Prog σ β) → Prog σ β
  | .ret v, q => q v
  | .stuck, _ => .stuck
  | .ask f k, q => .ask f fun n => (k n).bind q
theorem run_ret (v : α) (x : Tst σ) : (Prog.ret v : Prog σ α).run x = (.done v, x) := rfl
theorem run_some {f : σ → Int × σ} {k : Int → Prog σ α} {x x' : Tst σ} {n : Int} (h : askT f x = (some n, x')) : (Prog.ask f k).run x = (k n).run x' := by
  rw [Prog.run, h]
theorem run_none {f : σ → Int × σ} {k : Int → Prog σ α} {x x' : Tst σ} (h : askT f x = (none, x')) : (Prog.ask f k).run x = (.wait, x') := by
  rw [Prog.run, h]
theorem run_bind (q : α → Prog σ β) : ∀ (p : Prog σ α) (x : Tst σ), (p.bind q).run x = match p.run x with | (.done v, x') => (q v).run x' | (.wait, x') => (.wait, x') | (.stuck, x') => (.stuck, x')
  | .ret v, x => rfl
  | .stuck, x => rfl
  | .ask f k, x => by
    rw [Prog.bind]
    cases h : askT f x with
    | mk r x' => cases r with
      | none => rw [run_none h, run_none h]
      | some n => rw [run_some h, run_some h]; exact run_bind q (k n) x'
/-- What is left of it behind some answers. -/
def Prog.rest : Prog σ α → List Int → Prog σ α
  | p, [] => p
  | .ask _ k, n :: l => (k n).rest l
  | p, _ :: _ => p
/-- It asks at least as often. -/
def Prog.told : Prog σ α → List Int → Prop
  | _, [] => True
  | .ask _ k, n :: l => (k n).told l
  | _, _ :: _ => False
theorem rest_nil (p : Prog σ α) : p.rest [] = p := by cases p <;> rfl
theorem rest_snoc {f : σ → Int × σ} {k : Int → Prog σ α} : ∀ (l : List Int) (p : Prog σ α) (n : Int), p.told l → p.rest l = .ask f k → p.rest (l ++ [n]) = k n ∧ p.told (l ++ [n])
  | [], p, n, _, h => by
    rw [rest_nil] at h
    subst h
    exact ⟨by rw [List.nil_append, Prog.rest, rest_nil], by rw [List.nil_append, Prog.told]; cases k n <;> trivial⟩
  | m :: l, .ask g j, n, ht, h => rest_snoc l (j m) n ht h
  | m :: l, .ret v, n, ht, h => ht.elim
  | m :: l, .stuck, n, ht, h => ht.elim
theorem run_replay : ∀ (k : Nat) (p : Prog σ α) (x : Tst σ), x.log.length - x.at' = k → x.at' ≤ x.log.length → p.told (x.log.drop x.at') → p.run x = (p.rest (x.log.drop x.at')).run { x with at' := x.log.length }
  | 0, p, x, hk, hle, ht => by
    have e : x.at' = x.log.length := by omega
    rw [List.drop_eq_nil_of_le (by omega), rest_nil, ← e]
  | k + 1, p, x, hk, hle, ht => by
    have hlt : x.at' < x.log.length := by omega
    have hd : x.log.drop x.at' = x.log[x.at'] :: x.log.drop (x.at' + 1) := List.drop_eq_getElem_cons hlt
    rw [hd] at ht ⊢
    cases p with
    | ret v => exact ht.elim
    | stuck => exact ht.elim
    | ask f j =>
      have e : askT f x = (some x.log[x.at'], { x with at' := x.at' + 1 }) := by
        unfold askT
        rw [if_pos hlt]
        simp [List.getD, List.getElem?_eq_getElem hlt]
      rw [run_some e]
      exact run_replay k (j x.log[x.at']) { x with at' := x.at' + 1 } (by simp; omega) (by simp; omega) ht
/-- One Step of work of which some was told. -/
def stepR (r : Prog σ α) (log : List Int) (s : σ) : Res α × Tst σ := match r with
  | .ret v => (.done v, ⟨log, log.length, false, s⟩)
  | .stuck => (.stuck, ⟨log, log.length, false, s⟩)
  | .ask f k => match k (f s).1 with
    | .ret v => (.done v, ⟨log ++ [(f s).1], log.length + 1, true, (f s).2⟩)
    | .ask _ _ => (.wait, ⟨log ++ [(f s).1], log.length + 1, true, (f s).2⟩)
    | .stuck => (.stuck, ⟨log ++ [(f s).1], log.length + 1, true, (f s).2⟩)
theorem run_step (p : Prog σ α) (log : List Int) (s : σ) (ht : p.told log) : p.run ⟨log, 0, false, s⟩ = stepR (p.rest log) log s := by
  rw [run_replay _ p ⟨log, 0, false, s⟩ rfl (Nat.zero_le _) (by simpa using ht)]
  simp only [List.drop_zero]
  cases p.rest log with
  | ret v => rfl
  | stuck => rfl
  | ask f k =>
    have e : askT f (⟨log, log.length, false, s⟩ : Tst σ) = (some (f s).1, ⟨log ++ [(f s).1], log.length + 1, true, (f s).2⟩) := by
      unfold askT
      rw [if_neg (by simp), if_neg (by simp)]
    rw [run_some e]
    unfold stepR
    cases hk : k (f s).1 with
    | ret v => simp [Prog.run, hk]
    | stuck => simp [Prog.run, hk]
    | ask g j =>
      simp only [hk]
      exact run_none (x := ⟨log ++ [(f s).1], log.length + 1, true, (f s).2⟩) (by unfold askT; rw [if_neg (by simp), if_pos rfl])
end
end Go.Proofs.Ytkbnoceekileiaa
namespace Go.Proofs.Ytkbnoceekileiaa
open Go Go.RowKit
set_option linter.unusedVariables false
set_option linter.unusedSimpArgs false
theorem run_append_typed {P : Program} (w : World) (t ty e : TypeId) (i : TypeInfo) (z : Value) (size bytes : Nat) (ht : P.underlying t = some (.slice e)) (hi : P.info? e = some i) (hz : i.zero = some z)
    (hsize : i.size = size) (hby : i.bytes = bytes) (hzs : z.cells.size = size) (hsz : 0 < size) (v : Value) (n : Nat) (us : List Value) (hq : QRow w e size v n us)
    (x : Value) (m : Nat) (news : List Value) (hx : RdV w x m size news) (h1 : ∀ u ∈ news, u.oneCell' = true)
    (h63 : n + m ≤ maxLen) (hbytes : (n + m) * bytes ≤ 140737488355328) :
    ∃ v' w', (Builtin.append_ #[t, t] ty #[v, x]).run P w = .ok v' w' ∧ QRow w' e size v' (n + m) (us ++ news) ∧ w.grownBy w' v.ownBlock ∧ (∀ g, v'.ownBlock = some g → (m = 0 ∧ w' = w ∧ v' = v) ∨ ((v.ownBlock = some g ∨ w.heap.size ≤ g) ∧ ∃ c, Blk w' g e c)) := by
  by_cases hm : m = 0
  · subst hm
    obtain ⟨h0, _, hv⟩ := hx
    obtain rfl : news = [] := List.eq_nil_of_length_eq_zero (by simpa using h0)
    have hq' := hq
    obtain ⟨h0', a, cap, rfl, hnc, hcm, h3⟩ := hq
    refine ⟨_, w, ?_, by simpa using hq', World.grownBy.refl _ _, fun g hg => .inl ⟨rfl, rfl, rfl⟩⟩
    rcases hv with ⟨rfl, _⟩ | ⟨b, c, rfl, _, _⟩
    · exact run_append_nothing w t t ty e i ht hi a n cap hnc _ (Src.ofNil w ht 0)
    · exact run_append_nothing w t t ty e i ht hi a n cap hnc _ (Src.ofSlice w ht b 0 c [] (by simp) (by simp) (by simp))
  · obtain ⟨v', w', r1, r2, r3, r4⟩ := run_append_any (P := P) w t ty e i z size bytes ht hi hz hsize hby hzs hsz v n us hq x m news hx h1 h63 hbytes
    refine ⟨v', w', r1, r2, r3, fun g hg => ?_⟩
    obtain ⟨a, cap, rfl, _, _⟩ := r2.form
    obtain ⟨g', off, cur, rfl, hb, _, _⟩ := r2.at (by omega)
    have h := r4 g hg
    simp [Value.ownBlock] at hg
    subst hg
    exact .inr ⟨h.imp_right (·.1), cur, hb⟩
section
variable {P : Program} (w : World)
theorem step_append_typed {ops : Array Oper} {o : Oper} {a : Act} {K : Act → World → Prop} {Q : Exit → Act → World → Prop} {E : Prop} (hgd : o.guard = none) (s x : Operand) (t : TypeId)
    (ho : o.op = .call { callee := .builtin .append, args := #[s, x], argTypes := #[t, t] })
    (e : TypeId) (i : TypeInfo) (z : Value) (size bytes : Nat) (ht : P.underlying t = some (.slice e)) (hi : P.info? e = some i) (hz : i.zero = some z)
    (hsize : i.size = size) (hby : i.bytes = bytes) (hzs : z.cells.size = size) (hsz : 0 < size)
    (v : Value) (n : Nat) (us : List Value) (hs : a.eval s = v) (hq : QRow w e size v n us)
    (xv : Value) (m : Nat) (news : List Value) (hx : a.eval x = xv) (hr : RdV w xv m size news) (h1 : ∀ u ∈ news, u.oneCell' = true)
    (h63 : n + m ≤ maxLen) (hbytes : (n + m) * bytes ≤ 140737488355328)
    (h : ∀ a' c' w', QRow w' e size (.slice a' (n + m) c') (n + m) (us ++ news) → w.grownBy w' v.ownBlock → (∀ g, (Value.slice a' (n + m) c').ownBlock = some g → (m = 0 ∧ w' = w ∧ Value.slice a' (n + m) c' = v) ∨ ((v.ownBlock = some g ∨ w.heap.size ≤ g) ∧ ∃ c, Blk w' g e c)) → K (a.put o.dst (.slice a' (n + m) c')) w') :
    if Region.wanted o (yielded ops a.tmps) = true then Oper.wp P o a w K Q else E := by
  have hw : Region.wanted o (yielded ops a.tmps) = true := by simp [Region.wanted, hgd]
  rw [if_pos hw]
  obtain ⟨v', w', hrun, h2, h3, h4⟩ := run_append_typed (P := P) w t o.type e i z size bytes ht hi hz hsize hby hzs hsz v n us hq xv m news hr h1 h63 hbytes
  obtain ⟨a', c', rfl, _, _⟩ := h2.form
  unfold Oper.wp execOp
  simp only [ho, resolve, invoke, builtin, Sem.run_bind, Sem.run_pure, Result.andThen_ok, List.map_toArray, List.map_cons, List.map_nil, hs, hx, hrun]
  exact h a' c' w' h2 h3 h4
end
end Go.Proofs.Ytkbnoceekileiaa
namespace Go.Proofs.Ytkbnoceekileiaa
open Go Go.RowKit
set_option linter.unusedVariables false
set_option linter.unusedSimpArgs false
section
variable {P : Program} (w : World)
theorem wpList_append_typed {ops : Array Oper} {rest : List Oper} {o : Oper} {a : Act} {Q : Exit → Act → World → Prop} (hgd : o.guard = none) (s x : Operand) (t : TypeId)
    (ho : o.op = .call { callee := .builtin .append, args := #[s, x], argTypes := #[t, t] })
    (e : TypeId) (i : TypeInfo) (z : Value) (size bytes : Nat) (ht : P.underlying t = some (.slice e)) (hi : P.info? e = some i) (hz : i.zero = some z)
    (hsize : i.size = size) (hby : i.bytes = bytes) (hzs : z.cells.size = size) (hsz : 0 < size)
    (v : Value) (n : Nat) (us : List Value) (hs : a.eval s = v) (hq : QRow w e size v n us)
    (xv : Value) (m : Nat) (news : List Value) (hx : a.eval x = xv) (hr : RdV w xv m size news) (h1 : ∀ u ∈ news, u.oneCell' = true)
    (h63 : n + m ≤ maxLen) (hbytes : (n + m) * bytes ≤ 140737488355328)
    (h : ∀ a' c' w', QRow w' e size (.slice a' (n + m) c') (n + m) (us ++ news) → w.grownBy w' v.ownBlock → (∀ g, (Value.slice a' (n + m) c').ownBlock = some g → (m = 0 ∧ w' = w ∧ Value.slice a' (n + m) c' = v) ∨ ((v.ownBlock = some g ∨ w.heap.size ≤ g) ∧ ∃ c, Blk w' g e c)) → wpList P ops Q rest (a.put o.dst (.slice a' (n + m) c')) w') : wpList P ops Q (o :: rest) a w :=
  wpList_plain hgd fun K hK => by
    obtain ⟨v', w', hrun, h2, h3, h4⟩ := run_append_typed (P := P) w t o.type e i z size bytes ht hi hz hsize hby hzs hsz v n us hq xv m news hr h1 h63 hbytes
    obtain ⟨a', c', rfl, _, _⟩ := h2.form
    unfold Oper.wp execOp
    simp only [ho, resolve, invoke, builtin, Sem.run_bind, Sem.run_pure, Result.andThen_ok, List.map_toArray, List.map_cons, List.map_nil, hs, hx, hrun]
    exact hK _ _ (h a' c' w' h2 h3 h4)
end
/-- What a Clone comes to: a slice of its own, in new blocks. -/
def Cloned (t : TypeId) (sz n : Nat) (us : List Value) (w : World) (e : Ending) (w' : World) : Prop :=
  ∃ a c, e = .returned (.slice a n c) ∧ QRow w' t sz (.slice a n c) n us ∧ (∀ g, (Value.slice a n c).ownBlock = some g → w.heap.size ≤ g ∧ g < w'.heap.size ∧ ∃ c, Blk w' g t c) ∧ Fr nob w w'
theorem QRow.none0 {w : World} {g : Nat} (t : TypeId) (sz : Nat) : QRow w t sz (.slice (some ⟨g, 0, none⟩) 0 0) 0 [] := ⟨by simp, _, 0, rfl, Nat.le_refl _, Nat.zero_le _, .inl ⟨rfl, .inr ⟨_, rfl⟩⟩⟩
theorem Heap.growRow {w0 w wa w' : World} {l : List Piece} (h : Heap w0 w l) (i : Nat) {t : TypeId} {sz n n' : Nat} {v v' : Value} {us us' : List Value} (hi : l[i]? = some (rowP t sz v n us)) (hf : Fr nob w wa)
    (hq : QRow w' t sz v' n' us') (hg : wa.grownBy w' v.ownBlock) (hat : ∀ g, v'.ownBlock = some g → (v.ownBlock = some g ∨ wa.heap.size ≤ g) ∧ ∃ c, Blk w' g t c) : Heap w0 w' (l.set i (rowP t sz v' n' us')) := by
  obtain ⟨S, h1, hs, U⟩ := h.take i hi
  have F : Fr S w w' := (hf.mono (fun k _ (x : nob k) => x.elim)).grown hg (fun k hk => .inl (h1.2 k hk).1)
  refine U (S' := fun k => v'.ownBlock = some k) F ⟨hq, fun g hg => ⟨hg, (hat g hg).2⟩⟩ (fun k hk => ?_)
  obtain ⟨hx, c, hc⟩ := hat k hk
  rcases hx with hx | hx
  · exact .inl (h1.2 k hx).1
  · exact .inr ⟨Nat.le_trans hf.size hx, hc.lt⟩
end Go.Proofs.Ytkbnoceekileiaa
namespace Go.Proofs.Ytkbnoceekileiaa
open Go Go.RowKit
def intC (l : List Int) : List Value := l.map (Value.int .i64)
end Go.Proofs.Ytkbnoceekileiaa
namespace Go.Proofs.Ytkbnoceekileiaa
open Go
set_option linter.unusedVariables false
set_option linter.unusedSimpArgs false
section
variable {P : Program} {ops : Array Oper} {Q : Exit → Act → World → Prop} {md : Region.Mode} {S : World → Prop} {ks : List Nat}
/-- In whatever order the rest comes up: S behind each operation but these, and Q at last. -/
def AnyK (P : Program) (md : Region.Mode) (ops : Array Oper) (Q : Exit → Act → World → Prop) (S : World → Prop) (ks : List Nat) : Nat → Array Bool → Act → World → Prop
  | 0, l, a, w => Region.ready md ops l = [] ∧ Q .normal a w
  | n + 1, l, a, w => (Region.ready md ops l = [] → Q .normal a w) ∧ ∀ i ∈ Region.ready md ops l, wpOp P ops Q i (fun a' w' => (i ∉ ks → S w') ∧ AnyK P md ops Q S ks n (l.setIfInBounds i true) a' w') a w
theorem AnyK.any : ∀ (n : Nat) (l : Array Bool) (a : Act) (w : World), AnyK P md ops Q S ks n l a w → wpAny P md ops Q n l a w
  | 0, _, _, _, h => h
  | n + 1, _, _, _, h => ⟨h.1, fun i hi => wpOp_mono (fun a' w' h' => AnyK.any n _ a' w' h'.2) (h.2 i hi)⟩
theorem AnyK.start {id : Nat} {a : Act} {w : World} (hm : P.follows .mixedOrders = true) (hS : S w.drew) (h : S w.drew → AnyK P .any ops Q S ks ops.size (Array.replicate ops.size false) a w.drew) : (Code.region id ops true).wp P Q a w :=
  wp_region_any hm (AnyK.any _ _ _ _ (h hS))
theorem AnyK.done {l : Array Bool} {a : Act} {w : World} (hr : Region.ready md ops l = []) (h : Q .normal a w) : ∀ n, AnyK P md ops Q S ks n l a w
  | 0 => ⟨hr, h⟩
  | _ + 1 => ⟨fun _ => h, by rw [hr]; simp⟩
/-- The only one that may come up. -/
theorem AnyK.one {i : Nat} {o : Oper} {n : Nat} {l : Array Bool} {a : Act} {w : World} (hr : Region.ready md ops l = [i]) (ho : ops[i]? = some o)
    (h : ∀ K' : Act → World → Prop, Shut (∀ a w, (i ∉ ks → S w) → AnyK P md ops Q S ks n (l.setIfInBounds i true) a w → K' a w) → if Region.wanted o (yielded ops a.tmps) = true then Oper.wp P o a w K' Q else K' (a.put o.dst undef) w) : AnyK P md ops Q S ks (n + 1) l a w := by
  refine ⟨fun h0 => (by rw [hr] at h0; cases h0), fun j hj => ?_⟩
  rw [hr, List.mem_singleton] at hj
  subst hj
  exact wpOp_step ho fun K' hK => h K' (fun a w h1 h2 => hK a w ⟨h1, h2⟩)
/-- Those that may come up, two or three. -/
theorem AnyK.two {i j : Nat} {oi oj : Oper} {n : Nat} {l : Array Bool} {a : Act} {w : World} (hr : Region.ready md ops l = [i, j]) (hi : ops[i]? = some oi) (hj : ops[j]? = some oj)
    (h1 : ∀ K' : Act → World → Prop, Shut (∀ a w, (i ∉ ks → S w) → AnyK P md ops Q S ks n (l.setIfInBounds i true) a w → K' a w) → if Region.wanted oi (yielded ops a.tmps) = true then Oper.wp P oi a w K' Q else K' (a.put oi.dst undef) w)
    (h2 : ∀ K' : Act → World → Prop, Shut (∀ a w, (j ∉ ks → S w) → AnyK P md ops Q S ks n (l.setIfInBounds j true) a w → K' a w) → if Region.wanted oj (yielded ops a.tmps) = true then Oper.wp P oj a w K' Q else K' (a.put oj.dst undef) w) : AnyK P md ops Q S ks (n + 1) l a w := by
  refine ⟨fun h0 => (by rw [hr] at h0; cases h0), fun x hx => ?_⟩
  rw [hr] at hx
  simp only [List.mem_cons, List.not_mem_nil, or_false] at hx
  rcases hx with rfl | rfl
  · exact wpOp_step hi fun K' hK => h1 K' (fun a w e1 e2 => hK a w ⟨e1, e2⟩)
  · exact wpOp_step hj fun K' hK => h2 K' (fun a w e1 e2 => hK a w ⟨e1, e2⟩)
theorem AnyK.three {i j m : Nat} {oi oj om : Oper} {n : Nat} {l : Array Bool} {a : Act} {w : World} (hr : Region.ready md ops l = [i, j, m]) (hi : ops[i]? = some oi) (hj : ops[j]? = some oj) (hm : ops[m]? = some om)
    (h1 : ∀ K' : Act → World → Prop, Shut (∀ a w, (i ∉ ks → S w) → AnyK P md ops Q S ks n (l.setIfInBounds i true) a w → K' a w) → if Region.wanted oi (yielded ops a.tmps) = true then Oper.wp P oi a w K' Q else K' (a.put oi.dst undef) w)
    (h2 : ∀ K' : Act → World → Prop, Shut (∀ a w, (j ∉ ks → S w) → AnyK P md ops Q S ks n (l.setIfInBounds j true) a w → K' a w) → if Region.wanted oj (yielded ops a.tmps) = true then Oper.wp P oj a w K' Q else K' (a.put oj.dst undef) w)
    (h3 : ∀ K' : Act → World → Prop, Shut (∀ a w, (m ∉ ks → S w) → AnyK P md ops Q S ks n (l.setIfInBounds m true) a w → K' a w) → if Region.wanted om (yielded ops a.tmps) = true then Oper.wp P om a w K' Q else K' (a.put om.dst undef) w) : AnyK P md ops Q S ks (n + 1) l a w := by
  refine ⟨fun h0 => (by rw [hr] at h0; cases h0), fun x hx => ?_⟩
  rw [hr] at hx
  simp only [List.mem_cons, List.not_mem_nil, or_false] at hx
  rcases hx with rfl | rfl | rfl
  · exact wpOp_step hi fun K' hK => h1 K' (fun a w e1 e2 => hK a w ⟨e1, e2⟩)
  · exact wpOp_step hj fun K' hK => h2 K' (fun a w e1 e2 => hK a w ⟨e1, e2⟩)
  · exact wpOp_step hm fun K' hK => h3 K' (fun a w e1 e2 => hK a w ⟨e1, e2⟩)
/-- k waits for number i. -/
def waitsFor (md : Region.Mode) (ops : Array Oper) (k i : Nat) : Bool := match ops[k]? with | some o => o.after.any fun e => Region.binds md e && e.on == i | none => true
theorem waitsFor_ready {i k : Nat} {l : Array Bool} (h : waitsFor md ops k i = true) (hl : l.getD i true = false) : k ∉ Region.ready md ops l := by
  intro hk
  obtain ⟨_, o, ho, hall⟩ := mem_ready.1 hk
  unfold waitsFor at h
  rw [ho] at h
  obtain ⟨e, he, hb⟩ := Array.any_eq_true'.1 h
  simp only [Bool.and_eq_true, beq_iff_eq] at hb
  have h1 := hall e he hb.1
  rw [hb.2] at h1
  rcases Nat.lt_or_ge i l.size with h' | h'
  · simp [h'] at hl h1; rw [hl] at h1; cases h1
  · simp [Array.getElem?_eq_none h'] at h1
theorem AnyK.first {i : Nat} {oi : Oper} {v : Value} (hi : ops[i]? = some oi) (hsel : ∀ (j : Nat) (o : Oper) cs b, ops[j]? = some o → o.op ≠ .select cs b) (hk : (ks.all fun k => waitsFor md ops k i) = true)
    (hQ : ∀ c a w, Q (.panic c) (a.put oi.dst v) w → Q (.panic c) a w) : ∀ (n : Nat) (l : Array Bool) (a : Act) (w : World),
      (∀ j oj, ops[j]? = some oj → j ≠ i → l.getD j true = false → (∀ e ∈ oj.after, Region.binds md e = true → e.on ≠ i) → oi.apart ops oj = true) →
      i ∈ Region.ready md ops l → YieldsIf P ops S oi v a → S w → AnyK P md ops Q S ks n (l.setIfInBounds i true) (a.put oi.dst v) w → AnyK P md ops Q S ks (n + 1) l a w := by
  intro n
  induction n with
  | zero =>
    intro l a w _ hr hy hS H
    refine ⟨fun h => (by rw [h] at hr; cases hr), fun j hj => ?_⟩
    by_cases hji : j = i
    · subst hji; exact hy.wpOp hi hS ⟨fun _ => hS, H⟩
    · have := ready_mono hj hji
      rw [H.1] at this
      cases this
  | succ n ih =>
    intro l a w hfree hr hy hS H
    refine ⟨fun h => (by rw [h] at hr; cases hr), fun j hj => ?_⟩
    by_cases hji : j = i
    · subst hji; exact hy.wpOp hi hS ⟨fun _ => hS, H⟩
    · have h0 := (mem_ready.1 hr).1
      have hjk : j ∉ ks := fun x => waitsFor_ready (List.all_eq_true.1 hk j x) h0 hj
      have h1 := H.2 j (ready_mono hj hji)
      obtain ⟨hun, oj, hoj, hall⟩ := mem_ready.1 hj
      have hnot : ∀ e ∈ oj.after, Region.binds md e = true → e.on ≠ i := fun e he hb heq => by
        have h1 := hall e he hb
        rw [heq] at h1
        rcases Nat.lt_or_ge i l.size with h' | h'
        · simp [h'] at h0 h1; rw [h0] at h1; cases h1
        · simp [Array.getElem?_eq_none h'] at h1
      have h2 := wpOp_putIf hoj (hfree j oj hoj hji hun hnot) (fun cs b => hsel i oi cs b hi) (fun cs b => hsel j oj cs b hoj) hQ hy h1
      have hfree' : ∀ m om, ops[m]? = some om → m ≠ i → (l.setIfInBounds j true).getD m true = false → (∀ e ∈ om.after, Region.binds md e = true → e.on ≠ i) → oi.apart ops om = true := fun m om hm hmi hu hno => by
        refine hfree m om hm hmi ?_ hno
        by_cases hjm : j = m
        · subst hjm; exact hun
        · rw [getD_set_ne true hjm] at hu; exact hu
      refine wpOp_mono (fun a' w' h3 => ⟨fun _ => h3.2.1 hjk, ih (l.setIfInBounds j true) a' w' hfree' (ready_mono hr (Ne.symm hji)) h3.1 (h3.2.1 hjk) ?_⟩) h2
      rw [Array.setIfInBounds_comm _ _ hji]
      exact h3.2.2
theorem AnyK.take {i : Nat} {oi : Oper} {v : Value} {n : Nat} {l : Array Bool} {a : Act} {w : World} (hi : ops[i]? = some oi) (hs : Region.noSelect ops = true) (hf : Region.free md ops l i = true) (hr : (Region.ready md ops l).contains i = true) (hk : (ks.all fun k => waitsFor md ops k i) = true)
    (hQ : ∀ c a w, Q (.panic c) (a.put oi.dst v) w → Q (.panic c) a w) (hy : YieldsIf P ops S oi v a) (hS : S w) (h : AnyK P md ops Q S ks n (l.setIfInBounds i true) (a.put oi.dst v) w) : AnyK P md ops Q S ks (n + 1) l a w :=
  AnyK.first hi (Region.noSelect_spec hs) hk hQ n l a w (Region.free_spec hi hf) (by simpa using hr) hy hS h
/-- What yields its value in whatever world. -/
theorem AnyK.firstW {i : Nat} {oi : Oper} {v : Value} (hi : ops[i]? = some oi) (hsel : ∀ (j : Nat) (o : Oper) cs b, ops[j]? = some o → o.op ≠ .select cs b)
    (hQ : ∀ c a w, Q (.panic c) (a.put oi.dst v) w → Q (.panic c) a w) : ∀ (n : Nat) (l : Array Bool) (a : Act) (w : World),
      (∀ j oj, ops[j]? = some oj → j ≠ i → l.getD j true = false → (∀ e ∈ oj.after, Region.binds md e = true → e.on ≠ i) → oi.apart ops oj = true) →
      i ∈ Region.ready md ops l → YieldsIf P ops (fun _ => True) oi v a → (i ∉ ks → ∀ j w', (j ∉ ks → S w') → S w') → (i ∉ ks → S w) → AnyK P md ops Q S ks n (l.setIfInBounds i true) (a.put oi.dst v) w → AnyK P md ops Q S ks (n + 1) l a w := by
  intro n
  induction n with
  | zero =>
    intro l a w _ hr hy _ hS H
    refine ⟨fun h => (by rw [h] at hr; cases hr), fun j hj => ?_⟩
    by_cases hji : j = i
    · subst hji; exact hy.wpOp hi trivial ⟨hS, H⟩
    · have := ready_mono hj hji
      rw [H.1] at this
      cases this
  | succ n ih =>
    intro l a w hfree hr hy hT hS H
    refine ⟨fun h => (by rw [h] at hr; cases hr), fun j hj => ?_⟩
    by_cases hji : j = i
    · subst hji; exact hy.wpOp hi trivial ⟨hS, H⟩
    · have h0 := (mem_ready.1 hr).1
      have h1 := H.2 j (ready_mono hj hji)
      obtain ⟨hun, oj, hoj, hall⟩ := mem_ready.1 hj
      have hnot : ∀ e ∈ oj.after, Region.binds md e = true → e.on ≠ i := fun e he hb heq => by
        have h1 := hall e he hb
        rw [heq] at h1
        rcases Nat.lt_or_ge i l.size with h' | h'
        · simp [h'] at h0 h1; rw [h0] at h1; cases h1
        · simp [Array.getElem?_eq_none h'] at h1
      have h2 := wpOp_putIf hoj (hfree j oj hoj hji hun hnot) (fun cs b => hsel i oi cs b hi) (fun cs b => hsel j oj cs b hoj) hQ hy h1
      have hfree' : ∀ m om, ops[m]? = some om → m ≠ i → (l.setIfInBounds j true).getD m true = false → (∀ e ∈ om.after, Region.binds md e = true → e.on ≠ i) → oi.apart ops om = true := fun m om hm hmi hu hno => by
        refine hfree m om hm hmi ?_ hno
        by_cases hjm : j = m
        · subst hjm; exact hun
        · rw [getD_set_ne true hjm] at hu; exact hu
      refine wpOp_mono (fun a' w' h3 => ⟨h3.2.1, ih (l.setIfInBounds j true) a' w' hfree' (ready_mono hr (Ne.symm hji)) h3.1 hT (fun hik => hT hik j w' h3.2.1) ?_⟩) h2
      rw [Array.setIfInBounds_comm _ _ hji]
      exact h3.2.2
theorem AnyK.takeW {i : Nat} {oi : Oper} {v : Value} {n : Nat} {l : Array Bool} {a : Act} {w : World} (hi : ops[i]? = some oi) (hs : Region.noSelect ops = true) (hf : Region.free md ops l i = true) (hr : (Region.ready md ops l).contains i = true) (hk : i ∈ ks)
    (hQ : ∀ c a w, Q (.panic c) (a.put oi.dst v) w → Q (.panic c) a w) (hy : YieldsIf P ops (fun _ => True) oi v a) (h : AnyK P md ops Q S ks n (l.setIfInBounds i true) (a.put oi.dst v) w) : AnyK P md ops Q S ks (n + 1) l a w :=
  AnyK.firstW hi (Region.noSelect_spec hs) hQ n l a w (Region.free_spec hi hf) (by simpa using hr) hy (fun x => absurd hk x) (fun x => absurd hk x) h
end
end Go.Proofs.Ytkbnoceekileiaa
namespace Go.Proofs.Ytkbnoceekileiaa
open Go
set_option linter.unusedVariables false
set_option linter.unusedSimpArgs false
section
variable {P : Program} {ops : Array Oper} {Q : Exit → Act → World → Prop} {md : Region.Mode} {S S' : World → Prop} {ks ks' : List Nat}
/-- What stands undone and waits for number i, at once or through others of these. -/
def behind (md : Region.Mode) (ops : Array Oper) (i : Nat) : List Nat := (List.range ops.size).foldl (fun acc k => if (i :: acc).any (fun b => waitsFor md ops k b) then k :: acc else acc) []
def blockedB (md : Region.Mode) (ops : Array Oper) (l : Array Bool) (i : Nat) (ks : List Nat) : Bool :=
  (ks.all fun k => (behind md ops i).contains k) && ((behind md ops i).all fun b => (i :: behind md ops i).any fun b' => waitsFor md ops b b') && ((behind md ops i).all fun b => l.getD b true == false)
theorem AnyK.firstB {i : Nat} {oi : Oper} {v : Value} (B : List Nat) (hi : ops[i]? = some oi) (hsel : ∀ (j : Nat) (o : Oper) cs b, ops[j]? = some o → o.op ≠ .select cs b) (hk : ∀ k ∈ ks, k ∈ B) (hB : ∀ b ∈ B, ∃ b' ∈ i :: B, waitsFor md ops b b' = true)
    (hQ : ∀ c a w, Q (.panic c) (a.put oi.dst v) w → Q (.panic c) a w) : ∀ (n : Nat) (l : Array Bool) (a : Act) (w : World), (∀ b ∈ B, l.getD b true = false) →
      (∀ j oj, ops[j]? = some oj → j ≠ i → l.getD j true = false → (∀ e ∈ oj.after, Region.binds md e = true → e.on ≠ i) → oi.apart ops oj = true) →
      i ∈ Region.ready md ops l → YieldsIf P ops S oi v a → S w → AnyK P md ops Q S ks n (l.setIfInBounds i true) (a.put oi.dst v) w → AnyK P md ops Q S ks (n + 1) l a w := by
  intro n
  induction n with
  | zero =>
    intro l a w _ _ hr hy hS H
    refine ⟨fun h => (by rw [h] at hr; cases hr), fun j hj => ?_⟩
    by_cases hji : j = i
    · subst hji; exact hy.wpOp hi hS ⟨fun _ => hS, H⟩
    · have := ready_mono hj hji
      rw [H.1] at this
      cases this
  | succ n ih =>
    intro l a w hund hfree hr hy hS H
    refine ⟨fun h => (by rw [h] at hr; cases hr), fun j hj => ?_⟩
    by_cases hji : j = i
    · subst hji; exact hy.wpOp hi hS ⟨fun _ => hS, H⟩
    · have h0 := (mem_ready.1 hr).1
      have hjB : j ∉ B := fun x => by
        obtain ⟨b', hb', hw⟩ := hB j x
        refine waitsFor_ready hw ?_ hj
        rcases List.mem_cons.1 hb' with rfl | hb'
        · exact h0
        · exact hund b' hb'
      have hjk : j ∉ ks := fun x => hjB (hk j x)
      have h1 := H.2 j (ready_mono hj hji)
      obtain ⟨hun, oj, hoj, hall⟩ := mem_ready.1 hj
      have hnot : ∀ e ∈ oj.after, Region.binds md e = true → e.on ≠ i := fun e he hb heq => by
        have h1 := hall e he hb
        rw [heq] at h1
        rcases Nat.lt_or_ge i l.size with h' | h'
        · simp [h'] at h0 h1; rw [h0] at h1; cases h1
        · simp [Array.getElem?_eq_none h'] at h1
      have h2 := wpOp_putIf hoj (hfree j oj hoj hji hun hnot) (fun cs b => hsel i oi cs b hi) (fun cs b => hsel j oj cs b hoj) hQ hy h1
      have hfree' : ∀ m om, ops[m]? = some om → m ≠ i → (l.setIfInBounds j true).getD m true = false → (∀ e ∈ om.after, Region.binds md e = true → e.on ≠ i) → oi.apart ops om = true := fun m om hm hmi hu hno => by
        refine hfree m om hm hmi ?_ hno
        by_cases hjm : j = m
        · subst hjm; exact hun
        · rw [getD_set_ne true hjm] at hu; exact hu
      refine wpOp_mono (fun a' w' h3 => ⟨fun _ => h3.2.1 hjk, ih (l.setIfInBounds j true) a' w' (fun b hb => by rw [getD_set_ne true (fun x => hjB (by rw [x]; exact hb))]; exact hund b hb) hfree' (ready_mono hr (Ne.symm hji)) h3.1 (h3.2.1 hjk) ?_⟩) h2
      rw [Array.setIfInBounds_comm _ _ hji]
      exact h3.2.2
/-- As 'take', where those behind which S need not hold wait for number i, at once or through others. -/
theorem AnyK.takeB {i : Nat} {oi : Oper} {v : Value} {n : Nat} {l : Array Bool} {a : Act} {w : World} (hi : ops[i]? = some oi) (hs : Region.noSelect ops = true) (hf : Region.free md ops l i = true) (hr : (Region.ready md ops l).contains i = true) (hk : blockedB md ops l i ks = true)
    (hQ : ∀ c a w, Q (.panic c) (a.put oi.dst v) w → Q (.panic c) a w) (hy : YieldsIf P ops S oi v a) (hS : S w) (h : AnyK P md ops Q S ks n (l.setIfInBounds i true) (a.put oi.dst v) w) : AnyK P md ops Q S ks (n + 1) l a w := by
  unfold blockedB at hk
  simp only [Bool.and_eq_true] at hk
  obtain ⟨⟨h1, h2⟩, h3⟩ := hk
  refine AnyK.firstB (behind md ops i) hi (Region.noSelect_spec hs) (fun k hk => by simpa using List.all_eq_true.1 h1 k hk) (fun b hb => ?_) hQ n l a w (fun b hb => by simpa using List.all_eq_true.1 h3 b hb) (Region.free_spec hi hf) (by simpa using hr) hy hS h
  obtain ⟨b', m1, m2⟩ := List.any_eq_true.1 (List.all_eq_true.1 h2 b hb)
  exact ⟨b', m1, m2⟩
/-- From here on another thing holds behind each operation: all that stand undone are among ks. -/
theorem AnyK.phaseL : ∀ (n : Nat) (l : Array Bool) (a : Act) (w : World), (∀ k, l.getD k true = false → k ∈ ks) → AnyK P md ops Q S' ks' n l a w → AnyK P md ops Q S ks n l a w
  | 0, l, a, w, _, h => h
  | n + 1, l, a, w, hl, h => ⟨h.1, fun i hi => wpOp_mono (fun a' w' h' => ⟨fun hik => absurd (hl i (mem_ready.1 hi).1) hik, AnyK.phaseL n _ a' w' (fun k hk => by
      by_cases hik : i = k
      · subst hik; exact hl i (mem_ready.1 hi).1
      · rw [getD_set_ne true hik] at hk; exact hl k hk) h'.2⟩) (h.2 i hi)⟩
theorem getD_in {l : Array Bool} {k : Nat} (h : l.getD k true = false) : k < l.size := by
  rcases Nat.lt_or_ge k l.size with h' | h'
  · exact h'
  · simp [Array.getD, Nat.not_lt.2 h'] at h
theorem AnyK.phase {n : Nat} {l : Array Bool} {a : Act} {w : World} (hl : ((List.range l.size).all fun k => l.getD k true || ks.contains k) = true) (h : AnyK P md ops Q S' ks' n l a w) : AnyK P md ops Q S ks n l a w :=
  AnyK.phaseL n l a w (fun k hk => by
    have := List.all_eq_true.1 hl k (List.mem_range.2 (getD_in hk))
    rw [hk] at this
    simpa using this) h
end
end Go.Proofs.Ytkbnoceekileiaa
