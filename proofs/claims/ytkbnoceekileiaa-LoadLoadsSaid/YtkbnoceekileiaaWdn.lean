/- A world: what lies in memory, and how it is made. No condition but that its numbers may be. -/
import Derived.Test.YtkbnoceekileiaaWk
namespace Go.Proofs.Ytkbnoceekileiaa
open Go Go.RowKit
set_option linter.unusedVariables false
set_option linter.unusedSimpArgs false
set_option maxRecDepth 100000
/-- Where a world lies: its own block, the arena's, the records', the epochs'; its numbers. -/
structure Wc where
  wb : Nat
  ab : Nat
  rb : Nat
  eb : Nat
  a : Int
  b : Int
  entry : Int
abbrev pt (b : Nat) : Value := .pointer (some ⟨b, 0, none⟩)
def Wc.cells (c : Wc) : Array Value := #[pt c.ab, pt c.rb, pt c.eb, .int .i64 c.a, .int .i64 c.b, .int .i64 c.entry]
def wdL (c : Wc) (s : Wd) : List Piece := [blkP c.wb 67 c.cells, areP c.ab s.ar, tabP c.rb s.rt, epoP c.eb s.ep]
structure WdOk (N : Nat) (s : Wd) : Prop where
  ar : OkN s.ar N
  ep : OkEp s.ep N
  rt : ∀ e ∈ s.rt.es, e.nodes.length ≤ 1000 ∧ e.infos.length ≤ 1000
theorem WdOk.up {N M : Nat} {s : Wd} (h : WdOk N s) (hN : N ≤ M) : WdOk M s := ⟨h.ar.up hN, h.ep.more hN, h.rt⟩
theorem WdOk.setAr {N M : Nat} {s : Wd} (h : WdOk N s) (hN : N ≤ M) {x : Ar} (hx : OkN x M) : WdOk M { s with ar := x } := ⟨hx, h.ep.more hN, h.rt⟩
theorem WdOk.setEp {N M : Nat} {s : Wd} (h : WdOk N s) (hN : N ≤ M) {x : Ep} (hx : OkEp x M) : WdOk M { s with ep := x } := ⟨h.ar.up hN, hx, h.rt⟩
theorem Heap.dropX {w0 w : World} {A X Y : List Piece} (h : Heap w0 w (A ++ (X ++ Y))) : Heap w0 w (A ++ X) := by
  rw [← List.append_assoc] at h; exact h.first
theorem EpNew_h {w0 w : World} {l : List Piece} (h : Heap w0 w l) (n : Int) : Calls Try.prog 52 #[.int .i64 n] w fun e w' => ∃ b, e = .returned (.pointer (some ⟨b, 0, none⟩)) ∧ Heap w0 w' (l ++ [epoP b ⟨0, List.replicate (many n) (-1), List.replicate (many n) []⟩]) := by
  refine (EpNew_calls n w).mono ?_
  rintro e w' ⟨b, rfl, F, E⟩
  refine ⟨b, rfl, h.push F (p := epoP b ⟨0, List.replicate (many n) (-1), List.replicate (many n) []⟩) E (fun k hk => ?_)⟩
  rcases hk with hk | hk
  · exact hk.elim
  · exact hk
theorem Heap.rot4 {w0 w : World} {l : List Piece} {a b c d : Piece} (h : Heap w0 w (l ++ [a, b, c, d])) : Heap w0 w (l ++ [d, a, b, c]) := by
  refine h.idx (fun i => if i = l.length then l.length + 3 else if l.length < i then i - 1 else i) (fun i hi => ?_) (fun i j hi hj e => ?_)
  · by_cases h1 : i < l.length
    · simp only [show i ≠ l.length from by omega, show ¬ l.length < i from by omega, if_false]
      rw [List.getElem?_append_left h1, List.getElem?_append_left h1]
    · simp at hi
      rcases (by omega : i = l.length ∨ i = l.length + 1 ∨ i = l.length + 2 ∨ i = l.length + 3) with rfl | rfl | rfl | rfl <;> simp
  · simp at hi hj
    try simp only at e
    split at e <;> split at e <;> (try split at e) <;> (try split at e) <;> omega
def rootR : Int := 1099511627777
def entryR : Int := 1099511627778
def rootNd : Nd := ⟨false, false, [], [], []⟩
def entryNd : Nd := ⟨true, false, [], [], [rootR]⟩
def newAr2 (nodes : Int) : Ar := ⟨[⟨rootNd, [], 0, false, 1, true⟩, ⟨entryNd, [rootR], 0, false, 1, true⟩], [], nodes, 2, 0⟩
/-- A world as it is at first. -/
def wd0 (threads : Nat) (nodes records : Int) : Wd := ⟨newAr2 nodes, ⟨[], records⟩, ⟨0, List.replicate threads (-1), List.replicate threads []⟩⟩
theorem alloc_root {n : Int} (h : 2 ≤ n) : allocAr rootNd ⟨[], [], n, 0, 0⟩ = ((rootR, true), ⟨[⟨rootNd, [], 0, false, 1, true⟩], [], n, 1, 0⟩) := by
  rw [alloc_next rootNd (by simp; omega) rfl]; rfl
theorem alloc_entry {n : Int} (h : 2 ≤ n) : allocAr entryNd ⟨[⟨rootNd, [], 0, false, 1, true⟩], [], n, 1, 0⟩ = ((entryR, true), newAr2 n) := by
  rw [alloc_next entryNd (by simp; omega) rfl]; rfl
theorem more_small (sl : List Sl) (n u : Int) (hn : 2 ≤ n ∧ n ≤ 65536) (hl : sl.length ≤ 10) (hu : 0 ≤ u ∧ u ≤ 10) (hc : ∀ s ∈ sl, s.count ≤ 10) : MoreAr ⟨sl, [], n, u, 0⟩ :=
  ⟨⟨⟨by dsimp only; omega, hn.2⟩, ⟨by dsimp only; omega, by dsimp only; omega⟩, by dsimp only; omega, fun s hs => by have := hc s hs; omega, ⟨by simp, by simp⟩, by simp, by simp⟩, by dsimp only; omega, fun s hs => by have := hc s hs; omega, by simp⟩
theorem ok_new {threads : Nat} {nodes records : Int} (hn : 2 ≤ nodes ∧ nodes ≤ 65536) : WdOk 2 (wd0 threads nodes records) := by
  refine ⟨⟨?_, ?_, ?_, ?_, ?_, ?_, ?_⟩, ⟨?_, ?_, ?_, ?_⟩, ?_⟩
  · exact ⟨by show (0 : Int) ≤ nodes; omega, hn.2⟩
  · show -((2 : Nat) : Int) ≤ 2 ∧ (2 : Int) ≤ (2 : Nat); omega
  · show 2 ≤ 2; omega
  · intro s hs
    simp [wd0, newAr2] at hs
    rcases hs with rfl | rfl
    · exact ⟨by show 1 ≤ 2; omega, ⟨by simp [rootNd], by simp [rootNd], by simp [rootNd]⟩⟩
    · exact ⟨by show 1 ≤ 2; omega, ⟨by simp [entryNd], by simp [entryNd], by simp [entryNd]⟩⟩
  · show (0 : Int) ≤ 0 ∧ (0 : Int) ≤ (2 : Nat); omega
  · intro i hi; simp [wd0, newAr2] at hi
  · simp [wd0, newAr2]
  · show (0 : Int) ≤ 0 ∧ (0 : Int) ≤ (2 : Nat); omega
  · intro l hl p hp
    simp [wd0] at hl
    rw [hl.2] at hp
    simp at hp
  · show waits (List.replicate threads []) ≤ 2
    have : waits (List.replicate threads ([] : List (Int × Int))) = 0 := by
      unfold waits
      rw [List.map_replicate, List.sum_replicate_nat]; simp
    omega
  · simp [wd0]
  · intro e he; simp [wd0] at he
section
variable {w0 w : World} {l : List Piece}
set_option maxHeartbeats 4000000 in
theorem New_wd (h : Heap w0 w l) (a b t n r : Int) (ha : 2 ≤ a ∧ a ≤ 32) (hb : 2 * a - 1 ≤ b ∧ b ≤ 32) (ht : 1 ≤ t ∧ t ≤ 64) (hn : 2 ≤ n ∧ n ≤ 65536) (hr : 0 ≤ r ∧ r ≤ 65536) :
    Calls Try.prog 28 #[.int .i64 a, .int .i64 b, .int .i64 t, .int .i64 n, .int .i64 r] w fun e w' => ∃ c : Wc, c.a = a ∧ c.b = b ∧ c.entry = entryR ∧ e = .returned (.tuple #[.pointer (some ⟨c.wb, 0, none⟩), .int .i64 0]) ∧ Heap w0 w' (l ++ wdL c (wd0 t.toNat n r)) := by
  obtain ⟨a0, a1⟩ := ha
  obtain ⟨b0, b1⟩ := hb
  obtain ⟨t0, t1⟩ := ht
  obtain ⟨n0, n1⟩ := hn
  obtain ⟨r0, r1⟩ := hr
  have hm1 : (2 : Int) * a - 1 ≤ b := b0
  have HH := Lib.hid h
  clear h
  go_enter Try.func28, Try.ntmps28
  go_wp2_with fail
  refine (New_h HH.out n).mono ?_
  rintro e w1 ⟨rfl, H1⟩
  have HA : newAr n = ⟨[], [], n, 0, 0⟩ := by unfold newAr limAr; congr 1; omega
  rw [HA] at H1
  clear HH HA
  generalize w.heap.size = ab at *
  have HH := Lib.hid H1
  clear H1
  go_wp2_with fail
  refine (RtNew_h HH.out r).mono ?_
  rintro e w2 ⟨rfl, H2⟩
  have HL : lim r = r := by unfold lim; omega
  rw [HL] at H2
  clear HH HL
  generalize w1.heap.size = rb at *
  have HH := Lib.hid H2
  clear H2
  go_wp2_with fail
  refine (EpNew_h HH.out t).mono ?_
  rintro e w3 ⟨eb, rfl, H3⟩
  have HM : many t = t.toNat := by unfold many; congr 1; omega
  rw [HM] at H3
  have H4 := H3.alloc 67 #[.pointer (some ⟨ab, 0, none⟩), .pointer (some ⟨rb, 0, none⟩), .pointer (some ⟨eb, 0, none⟩), .int .i64 a, .int .i64 b, .int .i64 0]
  simp only [List.append_assoc, List.cons_append, List.nil_append] at H4
  clear HH HM H3
  generalize hW : w3.heap.size = wb at *
  have B4 := H4.blk (l.length + 3) (b := wb) (t := 67) (c := #[.pointer (some ⟨ab, 0, none⟩), .pointer (some ⟨rb, 0, none⟩), .pointer (some ⟨eb, 0, none⟩), .int .i64 a, .int .i64 b, .int .i64 0]) (by simp)
  have c0 : (w3.alloc (.cells #[.pointer (some ⟨ab, 0, none⟩), .pointer (some ⟨rb, 0, none⟩), .pointer (some ⟨eb, 0, none⟩), .int .i64 a, .int .i64 b, .int .i64 0] 67)).cell? ⟨wb, 0, none⟩ = some (.pointer (some ⟨ab, 0, none⟩)) := B4.cell 0
  have HH := Lib.hid H4
  clear H4 B4
  generalize hw4 : w3.alloc (.cells #[.pointer (some ⟨ab, 0, none⟩), .pointer (some ⟨rb, 0, none⟩), .pointer (some ⟨eb, 0, none⟩), .int .i64 a, .int .i64 b, .int .i64 0] 67) = w4 at *
  go_wp2_with fail
  have hlt : l.length < (l ++ [areP ab ⟨[], [], n, 0, 0⟩, tabP rb ⟨[], r⟩, epoP eb ⟨0, List.replicate t.toNat (-1), List.replicate t.toNat []⟩, blkP wb 67 #[.pointer (some ⟨ab, 0, none⟩), .pointer (some ⟨rb, 0, none⟩), .pointer (some ⟨eb, 0, none⟩), .int .i64 a, .int .i64 b, .int .i64 0]]).length := by simp
  refine (Alloc_h HH.out l.length (by simp) (more_small [] n 0 ⟨n0, n1⟩ (by simp) (by omega) (by simp)) rootNd ⟨by simp [rootNd], by simp [rootNd], by simp [rootNd]⟩ nilS nilS nilS (fun _ _ _ => ⟨RdV_nil _ _, RdV_nil _ _, RdV_nil _ _⟩)).mono ?_
  rintro e w5 ⟨rfl, H5⟩
  rw [alloc_root n0, List.set_append_right _ _ (Nat.le_refl _), Nat.sub_self] at H5
  rw [alloc_root n0]
  simp only [List.set_cons_zero] at H5
  have B5 := H5.blk (l.length + 3) (b := wb) (t := 67) (c := #[.pointer (some ⟨ab, 0, none⟩), .pointer (some ⟨rb, 0, none⟩), .pointer (some ⟨eb, 0, none⟩), .int .i64 a, .int .i64 b, .int .i64 0]) (by simp)
  have c5 : w5.cell? ⟨wb, 0, none⟩ = some (.pointer (some ⟨ab, 0, none⟩)) := B5.cell 0
  have l5 := B5.lt
  have H6 := H5.alloc 65 #[.int .i64 rootR]
  simp only [List.append_assoc, List.cons_append, List.nil_append] at H6
  have HH := Lib.hid H6
  clear H5 H6 B5 hlt c0
  have AL := fun (z : World) (q : Piece) (hz : Heap w0 z ((l ++ [areP ab ⟨[⟨rootNd, [], 0, false, 1, true⟩], [], n, 1, 0⟩, tabP rb ⟨[], r⟩, epoP eb ⟨0, List.replicate t.toNat (-1), List.replicate t.toNat []⟩, blkP wb 67 #[.pointer (some ⟨ab, 0, none⟩), .pointer (some ⟨rb, 0, none⟩), .pointer (some ⟨eb, 0, none⟩), .int .i64 a, .int .i64 b, .int .i64 0], blkP w5.heap.size 65 #[.int .i64 rootR]]).set l.length q)) =>
    (⟨RdV_nil z 2, RdV_nil z 1, RdV.block (cs := #[.int .i64 rootR]) (t := 65) (g := w5.heap.size) (m := 1) (sz := 1) (hz.blk (l.length + 4) (by rw [List.getElem?_set_ne (by omega)]; simp)) rfl (by decide)⟩ : RdV z nilS entryNd.pairs.length 2 (pairC entryNd.pairs) ∧ RdV z nilS entryNd.keys.length 1 (intC entryNd.keys) ∧ RdV z (.slice (some ⟨w5.heap.size, 0, none⟩) 1 1) entryNd.ways.length 1 (intC entryNd.ways))
  have CA := Lib.hid (Alloc_h (a := ab) HH.out l.length (by simp) (more_small [⟨rootNd, [], 0, false, 1, true⟩] n 1 ⟨n0, n1⟩ (by simp) (by omega) (by simp)) entryNd ⟨by simp [entryNd], by simp [entryNd], by simp [entryNd]⟩ nilS nilS (.slice (some ⟨w5.heap.size, 0, none⟩) 1 1) AL)
  clear AL HH
  go_wp2_with fail
  refine CA.out.mono ?_
  rintro e w6 ⟨rfl, H6⟩
  rw [alloc_entry n0, List.set_append_right _ _ (Nat.le_refl _), Nat.sub_self] at H6
  rw [alloc_entry n0]
  simp only [List.set_cons_zero] at H6
  have B6 := H6.blk (l.length + 3) (b := wb) (t := 67) (c := #[.pointer (some ⟨ab, 0, none⟩), .pointer (some ⟨rb, 0, none⟩), .pointer (some ⟨eb, 0, none⟩), .int .i64 a, .int .i64 b, .int .i64 0]) (by simp)
  have z6 := B6.froz 5
  have k6 : w6.cell? ⟨wb, 5, none⟩ = some (.int .i64 0) := B6.cell 5
  have H7 := H6.setCell (l.length + 3) (b := wb) (t := 67) (c := #[.pointer (some ⟨ab, 0, none⟩), .pointer (some ⟨rb, 0, none⟩), .pointer (some ⟨eb, 0, none⟩), .int .i64 a, .int .i64 b, .int .i64 0]) (by simp) 5 (.int .i64 entryR)
  rw [List.set_append_right _ _ (by omega), Nat.add_sub_cancel_left] at H7
  have H8 : Heap w0 (w6.setCell ⟨wb, 5, none⟩ (.int .i64 entryR)) (l ++ ([areP ab (newAr2 n), tabP rb ⟨[], r⟩, epoP eb ⟨0, List.replicate t.toNat (-1), List.replicate t.toNat []⟩, blkP wb 67 #[.pointer (some ⟨ab, 0, none⟩), .pointer (some ⟨rb, 0, none⟩), .pointer (some ⟨eb, 0, none⟩), .int .i64 a, .int .i64 b, .int .i64 entryR]] ++ [blkP w5.heap.size 65 #[.int .i64 rootR]])) := H7
  have HH := Lib.hid (H8.dropX).rot4
  clear H6 H7 H8 B6 CA
  go_wp2_with fail
  refine bodyPost_ret (v := .tuple #[.pointer (some ⟨wb, 0, none⟩), .int .i64 0]) (by simp [results, Try.results28, go_sem]) rfl ?_
  exact ⟨⟨wb, ab, rb, eb, a, b, entryR⟩, rfl, rfl, rfl, rfl, HH.out⟩
end
theorem wdL_cells {w0 w : World} {c : Wc} {s : Wd} {Z : List Piece} (h : Heap w0 w (wdL c s ++ Z)) : w.cell? ⟨c.wb, 0, none⟩ = some (.pointer (some ⟨c.ab, 0, none⟩)) ∧ w.cell? ⟨c.wb, 1, none⟩ = some (.pointer (some ⟨c.rb, 0, none⟩)) ∧ w.cell? ⟨c.wb, 2, none⟩ = some (.pointer (some ⟨c.eb, 0, none⟩)) ∧ w.cell? ⟨c.wb, 3, none⟩ = some (.int .i64 c.a) ∧ w.cell? ⟨c.wb, 4, none⟩ = some (.int .i64 c.b) ∧ w.cell? ⟨c.wb, 5, none⟩ = some (.int .i64 c.entry) := by
  have B := h.blk 0 rfl
  exact ⟨B.cell 0, B.cell 1, B.cell 2, B.cell 3, B.cell 4, B.cell 5⟩
end Go.Proofs.Ytkbnoceekileiaa
