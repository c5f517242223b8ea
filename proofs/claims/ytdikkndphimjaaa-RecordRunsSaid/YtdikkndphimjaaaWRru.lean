/- RecordRuns. No condition. -/
import Derived.Test.YtdikkndphimjaaaRws
import Derived.Test.YtdikkndphimjaaaRac
import Derived.Test.YtdikkndphimjaaaRecH
import Derived.Test.YtdikkndphimjaaaRecF
import Derived.Test.YtdikkndphimjaaaRecG
import Derived.Test.YtdikkndphimjaaaRru
import Derived.Deep.DeepCutAuto
import Derived.Deep.CutRange
namespace Go.Proofs.Ytdikkndphimjaaa
open Go Go.RowKit
set_option linter.unusedVariables false
set_option linter.unusedSimpArgs false
set_option maxRecDepth 100000
set_option maxHeartbeats 16000000 in
theorem RecordRuns_walk (most : Int) (hmost : -9223372036854775808 ≤ most ∧ most ≤ 9223372036854775807) (v1 : Value) (xs : List RAct) (w : World) (R1 : RdV w v1 xs.length 10 (xs.flatMap ractC)) (hy : ∀ x ∈ xs, x.ok w) :
    Calls Try.prog 6 #[.int .i64 most, v1] w fun e w' => e = .returned (.bool true) ∧ Below w.heap.size w w' := by
  have hm0 := R1.short
  unfold maxLen at hm0
  obtain ⟨pa, pc, rfl⟩ := R1.len
  have HR := Lib.hid R1
  have HY := Lib.hid hy
  have HMO := Lib.hid hmost
  clear R1 hy hmost
  go_enter Try.func6, Try.ntmps6
  go_wp2_with fail
  refine (RcAwake_calls w).mono ?_
  rintro e w1 ⟨rfl, F1⟩
  by_cases hn1 : 60 < xs.length
  · go_wp2_with fail
    go_ret
    exact ⟨rfl, F1.below (Nat.le_refl _) (fun _ x => x.elim)⟩
  have CN := RtNew_h ((Heap.start w).go F1) most
  generalize w1.heap.size = t at CN
  have CN := Lib.hid CN
  clear F1
  go_wp2_with fail
  refine CN.out.mono ?_
  rintro e w2 ⟨rfl, H2⟩
  clear CN
  have HG : Hid (([] : List HE).length ≤ 0 ∧ (∀ x ∈ ([] : List HE), fewE x) ∧ Heap w w2 [tabP t ⟨([] : List HE).map HE.e, lim most⟩, rowP 48 8 (.slice none ([] : List HE).length 0) ([] : List HE).length (([] : List HE).flatMap heC), heldP ([] : List HE)]) := Lib.hid ⟨Nat.le_refl _, by simp, (H2.rowNilG 48 8).push (p := heldP []) (S := fun _ => False) (Fr.refl _ _) (fun x hx => by simp at hx) (fun _ x => x.elim)⟩
  clear H2
  go_wp2_with fail
  go_loopw [6, 25] (fun s6 q wr => ∃ (k : Nat) (hs : List HE) (ha : Option Addr) (hc : Nat), q = .int .i64 (k : Nat) ∧ k ≤ xs.length ∧ s6 = .slice ha hs.length hc ∧ Hid (hs.length ≤ k ∧ (∀ x ∈ hs, fewE x) ∧ Heap w wr [tabP t ⟨hs.map HE.e, lim most⟩, rowP 48 8 (.slice ha hs.length hc) hs.length (hs.flatMap heC), heldP hs])) (fun _ q _ => xs.length - (intOf q).toNat)
  case atStart => exact ⟨0, [], none, 0, rfl, Nat.zero_le _, rfl, HG⟩
  case round =>
  clear HG
  obtain ⟨k, hs, ha, hc, rfl, hk, rfl, HG⟩ := hrel
  by_cases hlt : k < xs.length
  · obtain ⟨hl, hfew, H0⟩ := HG.out
    clear HG
    obtain ⟨a1, ea, hc1, hat1⟩ := (HR.out.fr H0.fr (fun _ _ _ x => x)).at (by omega)
    have ea : pa = some a1 := by simpa using ea
    subst ea
    obtain ⟨x, hxk⟩ : ∃ x, xs[k]? = some x := ⟨_, List.getElem?_eq_getElem hlt⟩
    have hxo := HY.out x (List.mem_of_getElem? hxk)
    have hcl : ∀ c u, c < 10 → (ractC x)[c]? = some u → World.cell? wr (a1.add (k * 10 + c)) = some u := fun c u hc9 hu => hat1 _ u (by rw [racts_get xs k c x hxk hc9]; exact hu)
    obtain ⟨d, on, raw, st, vn, vi, nodes, infos, keep, way, old, new⟩ := x
    obtain ⟨⟨d0, d1⟩, ⟨o0, o1⟩, ⟨s0, s1⟩, rn, ri⟩ := hxo
    dsimp only at d0 d1 o0 o1 s0 s1 rn ri
    obtain ⟨na, nc, rfl⟩ := rn.len
    obtain ⟨ia, ic, rfl⟩ := ri.len
    have y0 : World.cell? wr (a1.add (k * 10)) = some (.int .u8 d) := hcl 0 _ (by omega) rfl
    have y1 : World.cell? wr ⟨(a1.add (k * 10)).block, (a1.add (k * 10)).off + 1, none⟩ = some (.int .i8 on) := by have h := hcl 1 _ (by omega) rfl; rw [show k * 10 + 1 = k * 10 + (0 + 1) from rfl, add_fieldG] at h; exact h
    have y2 : World.cell? wr ⟨(a1.add (k * 10)).block, (a1.add (k * 10)).off + 2, none⟩ = some (.int .i64 raw) := by have h := hcl 2 _ (by omega) rfl; rw [show k * 10 + 2 = k * 10 + (1 + 1) from rfl, add_fieldG] at h; exact h
    have y3 : World.cell? wr ⟨(a1.add (k * 10)).block, (a1.add (k * 10)).off + 3, none⟩ = some (.int .u8 st) := by have h := hcl 3 _ (by omega) rfl; rw [show k * 10 + 3 = k * 10 + (2 + 1) from rfl, add_fieldG] at h; exact h
    have y4 : World.cell? wr ⟨(a1.add (k * 10)).block, (a1.add (k * 10)).off + 4, none⟩ = some (.slice na nodes.length nc) := by have h := hcl 4 _ (by omega) rfl; rw [show k * 10 + 4 = k * 10 + (3 + 1) from rfl, add_fieldG] at h; exact h
    have y5 : World.cell? wr ⟨(a1.add (k * 10)).block, (a1.add (k * 10)).off + 5, none⟩ = some (.slice ia infos.length ic) := by have h := hcl 5 _ (by omega) rfl; rw [show k * 10 + 5 = k * 10 + (4 + 1) from rfl, add_fieldG] at h; exact h
    have y6 : World.cell? wr ⟨(a1.add (k * 10)).block, (a1.add (k * 10)).off + 6, none⟩ = some (.int .i64 keep) := by have h := hcl 6 _ (by omega) rfl; rw [show k * 10 + 6 = k * 10 + (5 + 1) from rfl, add_fieldG] at h; exact h
    have y7 : World.cell? wr ⟨(a1.add (k * 10)).block, (a1.add (k * 10)).off + 7, none⟩ = some (.int .i64 way) := by have h := hcl 7 _ (by omega) rfl; rw [show k * 10 + 7 = k * 10 + (6 + 1) from rfl, add_fieldG] at h; exact h
    have y8 : World.cell? wr ⟨(a1.add (k * 10)).block, (a1.add (k * 10)).off + 8, none⟩ = some (.int .i64 old) := by have h := hcl 8 _ (by omega) rfl; rw [show k * 10 + 8 = k * 10 + (7 + 1) from rfl, add_fieldG] at h; exact h
    have y9 : World.cell? wr ⟨(a1.add (k * 10)).block, (a1.add (k * 10)).off + 9, none⟩ = some (.int .i64 new) := by have h := hcl 9 _ (by omega) rfl; rw [show k * 10 + 9 = k * 10 + (8 + 1) from rfl, add_fieldG] at h; exact h
    have H1 := H0.alloc 46 #[.int .u8 d, .int .i8 on, .int .i64 raw, .int .u8 st, .slice na nodes.length nc, .slice ia infos.length ic, .int .i64 keep, .int .i64 way, .int .i64 old, .int .i64 new]
    obtain ⟨X, hX⟩ : ∃ r, wr.heap.size = r := ⟨_, rfl⟩
    obtain ⟨w3, hw3⟩ : ∃ z, wr.alloc (.cells #[.int .u8 d, .int .i8 on, .int .i64 raw, .int .u8 st, .slice na nodes.length nc, .slice ia infos.length ic, .int .i64 keep, .int .i64 way, .int .i64 old, .int .i64 new] 46) = z := ⟨_, rfl⟩
    rw [hX, hw3] at H1
    have HH : Hid (Heap w w3 ([tabP t ⟨hs.map HE.e, lim most⟩, rowP 48 8 (.slice ha hs.length hc) hs.length (hs.flatMap heC), heldP hs] ++ [blkP X 46 #[.int .u8 d, .int .i8 on, .int .i64 raw, .int .u8 st, .slice na nodes.length nc, .slice ia infos.length ic, .int .i64 keep, .int .i64 way, .int .i64 old, .int .i64 new]])) := Lib.hid H1
    have HRX := Lib.hid (And.intro rn ri)
    have HSM : Hid (hs.length ≤ k ∧ ∀ x ∈ hs, fewE x) := Lib.hid ⟨hl, hfew⟩
    have HWW := Lib.hid (And.intro hX hw3)
    clear H0 H1 hat1 hc1 hxk hcl hl hfew rn ri hX hw3
    go_upto_region 10 with fail
    rw [HWW.out.1, HWW.out.2]
    clear HWW y0 y1 y2 y3 y4 y5 y6 y7 y8 y9
    have RN : Hid (∀ z l, Heap w z l → RdV z (.slice na nodes.length nc) nodes.length 1 (intC nodes) ∧ RdV z (.slice ia infos.length ic) infos.length 1 (intC infos)) := Lib.hid (fun z l hz => ⟨HRX.out.1.fr hz.fr (fun _ _ _ x => x), HRX.out.2.fr hz.fr (fun _ _ _ x => x)⟩)
    have CSh := short_any na ia nodes.length infos.length nc ic keep way old new w3
    have Bx := HH.out.blk 3 (b := X) (t := 46) (c := #[.int .u8 d, .int .i8 on, .int .i64 raw, .int .u8 st, .slice na nodes.length nc, .slice ia infos.length ic, .int .i64 keep, .int .i64 way, .int .i64 old, .int .i64 new]) rfl
    have x0 : World.cell? w3 ⟨X, 0, none⟩ = some (.int .u8 d) := Bx.cell 0
    have x1 : World.cell? w3 ⟨X, 1, none⟩ = some (.int .i8 on) := Bx.cell 1
    have x2 : World.cell? w3 ⟨X, 2, none⟩ = some (.int .i64 raw) := Bx.cell 2
    have x3 : World.cell? w3 ⟨X, 3, none⟩ = some (.int .u8 st) := Bx.cell 3
    have x4 : World.cell? w3 ⟨X, 4, none⟩ = some (.slice na nodes.length nc) := Bx.cell 4
    have x5 : World.cell? w3 ⟨X, 5, none⟩ = some (.slice ia infos.length ic) := Bx.cell 5
    have x6 : World.cell? w3 ⟨X, 6, none⟩ = some (.int .i64 keep) := Bx.cell 6
    have x7 : World.cell? w3 ⟨X, 7, none⟩ = some (.int .i64 way) := Bx.cell 7
    have x8 : World.cell? w3 ⟨X, 8, none⟩ = some (.int .i64 old) := Bx.cell 8
    have x9 : World.cell? w3 ⟨X, 9, none⟩ = some (.int .i64 new) := Bx.cell 9
    clear Bx
    by_cases hsh : nodes.length ≤ 20 ∧ infos.length ≤ 20
    · rw [decide_eq_true hsh] at CSh
      have CSh := Lib.hid CSh
      have HSH := Lib.hid hsh
      clear hsh
      go_wp2_with fail
      refine CSh.out.mono ?_
      rintro e w4 ⟨rfl, F4⟩
      clear CSh x0 x1 x2 x3 x4 x5 x6 x7 x8 x9
      have HH4 := Lib.hid (HH.out.go F4)
      clear HH F4
      have Bx := HH4.out.blk 3 (b := X) (t := 46) (c := #[.int .u8 d, .int .i8 on, .int .i64 raw, .int .u8 st, .slice na nodes.length nc, .slice ia infos.length ic, .int .i64 keep, .int .i64 way, .int .i64 old, .int .i64 new]) rfl
      have x0 : World.cell? w4 ⟨X, 0, none⟩ = some (.int .u8 d) := Bx.cell 0
      have x1 : World.cell? w4 ⟨X, 1, none⟩ = some (.int .i8 on) := Bx.cell 1
      have x2 : World.cell? w4 ⟨X, 2, none⟩ = some (.int .i64 raw) := Bx.cell 2
      have x3 : World.cell? w4 ⟨X, 3, none⟩ = some (.int .u8 st) := Bx.cell 3
      clear Bx
      go_upto_region 13 with fail
      go_cut [38] from 36 to 38 (fun s38 wx => s38 = .bool (on == 127) ∧ Hid (Heap w wx ([tabP t ⟨hs.map HE.e, lim most⟩, rowP 48 8 (.slice ha hs.length hc) hs.length (hs.flatMap heC), heldP hs] ++ [blkP X 46 #[.int .u8 d, .int .i8 on, .int .i64 raw, .int .u8 st, .slice na nodes.length nc, .slice ia infos.length ic, .int .i64 keep, .int .i64 way, .int .i64 old, .int .i64 new]])))
      case first =>
        go_wp2_with fail
        go_meet
        exact ⟨rfl, HH4⟩
      case rest =>
      obtain ⟨rfl, HH⟩ := hcut
      clear x0 x1 x2 x3 HH4
      rename World => w5
      have Bx := HH.out.blk 3 (b := X) (t := 46) (c := #[.int .u8 d, .int .i8 on, .int .i64 raw, .int .u8 st, .slice na nodes.length nc, .slice ia infos.length ic, .int .i64 keep, .int .i64 way, .int .i64 old, .int .i64 new]) rfl
      have x0 : World.cell? w5 ⟨X, 0, none⟩ = some (.int .u8 d) := Bx.cell 0
      have x1 : World.cell? w5 ⟨X, 1, none⟩ = some (.int .i8 on) := Bx.cell 1
      have x2 : World.cell? w5 ⟨X, 2, none⟩ = some (.int .i64 raw) := Bx.cell 2
      have x3 : World.cell? w5 ⟨X, 3, none⟩ = some (.int .u8 st) := Bx.cell 3
      clear Bx
      rename ∀ (a : Act) (w : World), Code.wp Try.prog _ _ a w → _ => hK8
      refine hK8 _ _ ?_
      clear hK8
      go_cut [9] from 38 to 40 (fun s9 wx => ∃ n : Int, s9 = .int .i64 n ∧ Hid (Heap w wx ([tabP t ⟨hs.map HE.e, lim most⟩, rowP 48 8 (.slice ha hs.length hc) hs.length (hs.flatMap heC), heldP hs] ++ [blkP X 46 #[.int .u8 d, .int .i8 on, .int .i64 raw, .int .u8 st, .slice na nodes.length nc, .slice ia infos.length ic, .int .i64 keep, .int .i64 way, .int .i64 old, .int .i64 new]])))
      case first =>
        by_cases e9 : on = 127
        · subst e9
          go_wp2_with fail
          go_meet
          exact ⟨raw, rfl, HH⟩
        · have fb : (on == 127) = false := beq_eq_false_iff_ne.2 e9
          go_wp2_with fail
          go_meet
          exact ⟨on, by go_num, HH⟩
      case rest =>
      obtain ⟨n, rfl, HH6⟩ := hcut
      clear x0 x1 x2 x3 HH
      rename World => w6
      have H7 := HH6.out.alloc 48 #[.slice none 0 0, .slice none 0 0, .int .i64 0, .int .i64 0, .int .i64 0, .int .i64 0, .int .u8 0, .bool false]
      obtain ⟨E, hE⟩ : ∃ r, w6.heap.size = r := ⟨_, rfl⟩
      obtain ⟨w7, hw7⟩ : ∃ z, w6.alloc (.cells #[.slice none 0 0, .slice none 0 0, .int .i64 0, .int .i64 0, .int .i64 0, .int .i64 0, .int .u8 0, .bool false] 48) = z := ⟨_, rfl⟩
      rw [hE, hw7] at H7
      have HH7 : Hid (Heap w w7 ([tabP t ⟨hs.map HE.e, lim most⟩, rowP 48 8 (.slice ha hs.length hc) hs.length (hs.flatMap heC), heldP hs] ++ [blkP X 46 #[.int .u8 d, .int .i8 on, .int .i64 raw, .int .u8 st, .slice na nodes.length nc, .slice ia infos.length ic, .int .i64 keep, .int .i64 way, .int .i64 old, .int .i64 new], blkP E 48 #[y0.vn, y0.vi, .int .i64 y0.e.keep, .int .i64 y0.e.way, .int .i64 y0.e.old, .int .i64 y0.e.new, .int .u8 y0.e.st, .bool y0.e.all]])) := Lib.hid H7
      have HWW := Lib.hid (And.intro hE hw7)
      clear H7 hE hw7 HH6
      go_upto_region 17 with fail
      rw [HWW.out.1, HWW.out.2]
      clear HWW
      go_cut [48] from 41 to 48 (fun s48 wx => ∃ b : Bool, s48 = .bool b ∧ Hid (b = true ↔ (1 ≤ n ∧ n ≤ (hs.length : Int))) ∧ Hid (Heap w wx ([tabP t ⟨hs.map HE.e, lim most⟩, rowP 48 8 (.slice ha hs.length hc) hs.length (hs.flatMap heC), heldP hs] ++ [blkP X 46 #[.int .u8 d, .int .i8 on, .int .i64 raw, .int .u8 st, .slice na nodes.length nc, .slice ia infos.length ic, .int .i64 keep, .int .i64 way, .int .i64 old, .int .i64 new], blkP E 48 #[y0.vn, y0.vi, .int .i64 y0.e.keep, .int .i64 y0.e.way, .int .i64 y0.e.old, .int .i64 y0.e.new, .int .u8 y0.e.st, .bool y0.e.all]])))
      case first =>
        by_cases h1 : 1 ≤ n
        · have h1' := Lib.hid h1
          by_cases h2 : n ≤ (hs.length : Int)
          · have h2' := Lib.hid h2
            go_wp2_with fail
            go_meet
            exact ⟨true, rfl, Lib.hid ⟨fun _ => ⟨h1'.out, h2'.out⟩, fun _ => rfl⟩, HH7⟩
          · have h2' := Lib.hid h2
            go_wp2_with fail
            go_meet
            exact ⟨false, rfl, Lib.hid ⟨fun h => by simp at h, fun h => by have := h2'.out; omega⟩, HH7⟩
        · have h1' := Lib.hid h1
          go_wp2_with fail
          go_meet
          exact ⟨false, rfl, Lib.hid ⟨fun h => by simp at h, fun h => by have := h1'.out; omega⟩, HH7⟩
      case rest =>
      obtain ⟨b48, rfl, HBB, HH⟩ := hcut
      clear HH7
      rename World => w8
      rename ∀ (a : Act) (w : World), Code.wp Try.prog _ _ a w → _ => hK8
      refine hK8 _ _ ?_
      clear hK8
      go_cut [10] from 48 to 54 (fun s10 wx => ∃ (ip : Int) (y : HE), s10 = .int .i64 ip ∧ Hid (Fnd hs n ip y ∧ Heap w wx ([tabP t ⟨hs.map HE.e, lim most⟩, rowP 48 8 (.slice ha hs.length hc) hs.length (hs.flatMap heC), heldP hs] ++ [blkP X 46 #[.int .u8 d, .int .i8 on, .int .i64 raw, .int .u8 st, .slice na nodes.length nc, .slice ia infos.length ic, .int .i64 keep, .int .i64 way, .int .i64 old, .int .i64 new], blkP E 48 #[y.vn, y.vi, .int .i64 y.e.keep, .int .i64 y.e.way, .int .i64 y.e.old, .int .i64 y.e.new, .int .u8 y.e.st, .bool y.e.all]])))
      case first =>
        cases b48 with
        | true =>
          have hin := HBB.out.1 rfl
          obtain ⟨p, rfl⟩ : ∃ p : Nat, n = (p : Int) + 1 := ⟨(n - 1).toNat, by omega⟩
          have hpl : p < hs.length := by omega
          have hpi : (p : Int) < (hs.length : Int) := by omega
          have hw9 : wrap64 (p : Int) = (p : Int) := by have := HSM.out.1; unfold wrap64; omega
          obtain ⟨y, hy⟩ : ∃ y, hs[p]? = some y := ⟨_, List.getElem?_eq_getElem hpl⟩
          obtain ⟨r1, r2⟩ := HH.out.held 2 rfl (List.mem_of_getElem? hy)
          obtain ⟨vy, wy, ⟨en, ei, ek, ew, eo, enw, est, eal⟩⟩ := y
          dsimp only at r1 r2
          obtain ⟨p1, q1, rfl⟩ := r1.len
          obtain ⟨p2, q2, rfl⟩ := r2.len
          obtain ⟨g, off, cur, rfl, _, _, _⟩ := (HH.out.row 1 (t := 48) (sz := 8) (n := hs.length) (v := .slice ha hs.length hc) (us := hs.flatMap heC) rfl).at (by omega)
          obtain ⟨ec, ef⟩ := HH.out.elemG 1 heC_len (t := 48) (g := g) (off := off) (cap := hc) (l := hs) rfl hy
          have t0 : World.cell? w8 ⟨g, off + p * 8, none⟩ = some (.slice p1 en.length q1) := ec 0 _ rfl
          have t1 : World.cell? w8 ⟨g, off + p * 8 + 1, none⟩ = some (.slice p2 ei.length q2) := ec 1 _ rfl
          have t2 : World.cell? w8 ⟨g, off + p * 8 + 2, none⟩ = some (.int .i64 ek) := ec 2 _ rfl
          have t3 : World.cell? w8 ⟨g, off + p * 8 + 3, none⟩ = some (.int .i64 ew) := ec 3 _ rfl
          have t4 : World.cell? w8 ⟨g, off + p * 8 + 4, none⟩ = some (.int .i64 eo) := ec 4 _ rfl
          have t5 : World.cell? w8 ⟨g, off + p * 8 + 5, none⟩ = some (.int .i64 enw) := ec 5 _ rfl
          have t6 : World.cell? w8 ⟨g, off + p * 8 + 6, none⟩ = some (.int .u8 est) := ec 6 _ rfl
          have t7 : World.cell? w8 ⟨g, off + p * 8 + 7, none⟩ = some (.bool eal) := ec 7 _ rfl
          have Bz := HH.out.blk 4 (b := E) (t := 48) (c := #[.slice none 0 0, .slice none 0 0, .int .i64 0, .int .i64 0, .int .i64 0, .int .i64 0, .int .u8 0, .bool false]) rfl
          have z0 : World.cell? w8 ⟨E, 0, none⟩ = some (.slice none 0 0) := Bz.cell 0
          have fz0 := Bz.froz 0
          have z1 : World.cell? w8 ⟨E, 1, none⟩ = some (.slice none 0 0) := Bz.cell 1
          have fz1 := Bz.froz 1
          have z2 : World.cell? w8 ⟨E, 2, none⟩ = some (.int .i64 0) := Bz.cell 2
          have fz2 := Bz.froz 2
          have z3 : World.cell? w8 ⟨E, 3, none⟩ = some (.int .i64 0) := Bz.cell 3
          have fz3 := Bz.froz 3
          have z4 : World.cell? w8 ⟨E, 4, none⟩ = some (.int .i64 0) := Bz.cell 4
          have fz4 := Bz.froz 4
          have z5 : World.cell? w8 ⟨E, 5, none⟩ = some (.int .i64 0) := Bz.cell 5
          have fz5 := Bz.froz 5
          have z6 : World.cell? w8 ⟨E, 6, none⟩ = some (.int .u8 0) := Bz.cell 6
          have fz6 := Bz.froz 6
          have z7 : World.cell? w8 ⟨E, 7, none⟩ = some (.bool false) := Bz.cell 7
          have fz7 := Bz.froz 7
          clear Bz
          have H8 := ((((((((HH.out).setCell 4 rfl 0 (.slice p1 en.length q1)).setCell 4 rfl 1 (.slice p2 ei.length q2)).setCell 4 rfl 2 (.int .i64 ek)).setCell 4 rfl 3 (.int .i64 ew)).setCell 4 rfl 4 (.int .i64 eo)).setCell 4 rfl 5 (.int .i64 enw)).setCell 4 rfl 6 (.int .u8 est)).setCell 4 rfl 7 (.bool eal)
          have H9 : Hid (Heap w _ ([tabP t ⟨hs.map HE.e, lim most⟩, rowP 48 8 (.slice (some ⟨g, off, none⟩) hs.length hc) hs.length (hs.flatMap heC), heldP hs] ++ [blkP X 46 #[.int .u8 d, .int .i8 on, .int .i64 raw, .int .u8 st, .slice na nodes.length nc, .slice ia infos.length ic, .int .i64 keep, .int .i64 way, .int .i64 old, .int .i64 new], blkP E 48 #[(⟨.slice p1 en.length q1, .slice p2 ei.length q2, ⟨en, ei, ek, ew, eo, enw, est, eal⟩⟩ : HE).vn, (⟨.slice p1 en.length q1, .slice p2 ei.length q2, ⟨en, ei, ek, ew, eo, enw, est, eal⟩⟩ : HE).vi, .int .i64 (⟨.slice p1 en.length q1, .slice p2 ei.length q2, ⟨en, ei, ek, ew, eo, enw, est, eal⟩⟩ : HE).e.keep, .int .i64 (⟨.slice p1 en.length q1, .slice p2 ei.length q2, ⟨en, ei, ek, ew, eo, enw, est, eal⟩⟩ : HE).e.way, .int .i64 (⟨.slice p1 en.length q1, .slice p2 ei.length q2, ⟨en, ei, ek, ew, eo, enw, est, eal⟩⟩ : HE).e.old, .int .i64 (⟨.slice p1 en.length q1, .slice p2 ei.length q2, ⟨en, ei, ek, ew, eo, enw, est, eal⟩⟩ : HE).e.new, .int .u8 (⟨.slice p1 en.length q1, .slice p2 ei.length q2, ⟨en, ei, ek, ew, eo, enw, est, eal⟩⟩ : HE).e.st, .bool (⟨.slice p1 en.length q1, .slice p2 ei.length q2, ⟨en, ei, ek, ew, eo, enw, est, eal⟩⟩ : HE).e.all]])) := Lib.hid H8
          have HY9 := Lib.hid hy
          clear H8 ec ef hy r1 r2 HH hin HBB
          go_wp2_with fail
          go_meet
          exact ⟨(p : Int), _, by go_num, Lib.hid ⟨.inr ⟨p, rfl, rfl, HY9.out⟩, H9.out⟩⟩
        | false =>
          have hin : ¬ (1 ≤ n ∧ n ≤ (hs.length : Int)) := fun h => by have := HBB.out.2 h; simp at this
          have HF : Hid (Fnd hs n (-1) y0) := Lib.hid (.inl ⟨rfl, by
            unfold entOf
            split
            · rw [List.getElem?_eq_none]; rw [List.length_map]; omega
            · rfl, rfl⟩)
          clear hin HBB
          go_wp2_with fail
          go_meet
          exact ⟨-1, y0, rfl, Lib.hid ⟨HF.out, HH.out⟩⟩
      case rest =>
      obtain ⟨ip, y, rfl, HF⟩ := hcut
      clear HH HBB
      rename World => w9
      go_upto_region 21 with fail
      have Bx := HF.out.2.blk 3 (b := X) (t := 46) (c := #[.int .u8 d, .int .i8 on, .int .i64 raw, .int .u8 st, .slice na nodes.length nc, .slice ia infos.length ic, .int .i64 keep, .int .i64 way, .int .i64 old, .int .i64 new]) rfl
      have x0 : World.cell? w9 ⟨X, 0, none⟩ = some (.int .u8 d) := Bx.cell 0
      clear Bx
      go_cut [57] from 55 to 57 (fun s57 wx => s57 = .int .u8 (d % 6) ∧ Hid (Fnd hs n ip y ∧ Heap w wx ([tabP t ⟨hs.map HE.e, lim most⟩, rowP 48 8 (.slice ha hs.length hc) hs.length (hs.flatMap heC), heldP hs] ++ [blkP X 46 #[.int .u8 d, .int .i8 on, .int .i64 raw, .int .u8 st, .slice na nodes.length nc, .slice ia infos.length ic, .int .i64 keep, .int .i64 way, .int .i64 old, .int .i64 new], blkP E 48 #[y.vn, y.vi, .int .i64 y.e.keep, .int .i64 y.e.way, .int .i64 y.e.old, .int .i64 y.e.new, .int .u8 y.e.st, .bool y.e.all]])))
      case first =>
        go_wp2_with fail
        go_meet
        exact ⟨rfl, HF⟩
      case rest =>
      obtain ⟨rfl, HF9⟩ := hcut
      clear HF x0
      rename World => w10
      rename ∀ (a : Act) (w : World), Code.wp Try.prog _ _ a w → _ => hK8
      refine hK8 _ _ ?_
      clear hK8
      obtain ⟨qd, hqd⟩ : ∃ q, d % 6 = q := ⟨_, rfl⟩
      have hqb : 0 ≤ qd ∧ qd ≤ 5 := by omega
      rw [hqd]
      have HQD := Lib.hid hqd
      clear hqd
      go_cut [6, 12] from 57 to 143 (fun s6 s12 wx => ∃ (hs' : List HE) (es' : List Ent) (y' : HE) (ha' : Option Addr) (hc' : Nat), s6 = .slice ha' hs'.length hc' ∧ s12 = .bool true ∧ Hid (Lft d hs hs' es' ip y y' ∧ Heap w wx ([tabP t ⟨es', lim most⟩, rowP 48 8 (.slice ha' hs'.length hc') hs'.length (hs'.flatMap heC), heldP hs'] ++ [blkP X 46 #[.int .u8 d, .int .i8 on, .int .i64 raw, .int .u8 st, .slice na nodes.length nc, .slice ia infos.length ic, .int .i64 keep, .int .i64 way, .int .i64 old, .int .i64 new], blkP E 48 #[y'.vn, y'.vi, .int .i64 y'.e.keep, .int .i64 y'.e.way, .int .i64 y'.e.old, .int .i64 y'.e.new, .int .u8 y'.e.st, .bool y'.e.all]])))
      case first =>
        rcases (by omega : qd = 0 ∨ qd = 1 ∨ qd = 2 ∨ qd = 3 ∨ qd = 4 ∨ qd = 5) with rfl | rfl | rfl | rfl | rfl | rfl
        · go_upto_region 25 with fail
          have Bx := HF9.out.2.blk 3 (b := X) (t := 46) (c := #[.int .u8 d, .int .i8 on, .int .i64 raw, .int .u8 st, .slice na nodes.length nc, .slice ia infos.length ic, .int .i64 keep, .int .i64 way, .int .i64 old, .int .i64 new]) rfl
          have x4 : World.cell? w10 ⟨X, 4, none⟩ = some (.slice na nodes.length nc) := Bx.cell 4
          have x5 : World.cell? w10 ⟨X, 5, none⟩ = some (.slice ia infos.length ic) := Bx.cell 5
          have x6 : World.cell? w10 ⟨X, 6, none⟩ = some (.int .i64 keep) := Bx.cell 6
          have x7 : World.cell? w10 ⟨X, 7, none⟩ = some (.int .i64 way) := Bx.cell 7
          have x8 : World.cell? w10 ⟨X, 8, none⟩ = some (.int .i64 old) := Bx.cell 8
          have x9 : World.cell? w10 ⟨X, 9, none⟩ = some (.int .i64 new) := Bx.cell 9
          clear Bx
          have hw9 : wrap64 ((hs.length : Int) + 1) = (hs.length : Int) + 1 := by have := HSM.out.1; unfold wrap64; omega
          have hz9 : ((0 : Int) == (hs.length : Int) + 1) = false := beq_eq_false_iff_ne.2 (by omega)
          by_cases hm : nodes.length = infos.length ∧ 0 ≤ keep
          · by_cases h9 : (hs.length : Int) < min most 65536
            · have hmk : makeRt (⟨nodes, infos, keep, way, old, new⟩ : Rc) ⟨hs.map HE.e, lim most⟩ = (((hs.length : Int) + 1, true), ⟨hs.map HE.e ++ [⟨nodes, infos, keep, way, old, new, 1, false⟩], lim most⟩) := by
                unfold makeRt
                rw [if_pos ⟨hm.1, hm.2, by dsimp only; rw [List.length_map]; exact room_is.2 h9⟩]
                simp [Rc.ent]
              have C := Make_h HF9.out.2 0 rfl (⟨nodes, infos, keep, way, old, new⟩ : Rc) _ _ (RN.out _ _ HF9.out.2).1 (RN.out _ _ HF9.out.2).2 (by dsimp only; have := HSH.out.1; omega) (by dsimp only; have := HSH.out.2; omega)
              rw [hmk] at C
              have C := Lib.hid C
              clear hmk
              have HDR := Lib.hid (And.intro hm h9)
              clear h9 hm
              go_wp2_with fail
              refine C.out.mono ?_
              rintro e w12 ⟨rfl, H1⟩
              have H1 : Heap w w12 ([tabP t ⟨hs.map HE.e ++ [⟨nodes, infos, keep, way, old, new, 1, false⟩], lim most⟩, rowP 48 8 (.slice ha hs.length hc) hs.length (hs.flatMap heC), heldP hs] ++ [blkP X 46 #[.int .u8 d, .int .i8 on, .int .i64 raw, .int .u8 st, .slice na nodes.length nc, .slice ia infos.length ic, .int .i64 keep, .int .i64 way, .int .i64 old, .int .i64 new], blkP E 48 #[y.vn, y.vi, .int .i64 y.e.keep, .int .i64 y.e.way, .int .i64 y.e.old, .int .i64 y.e.new, .int .u8 y.e.st, .bool y.e.all]]) := H1
              have CM := May_calls _ _ nodes infos keep way old new w12 ((RN.out _ _ H1).1.rd (by have := HSH.out.1; omega)) ((RN.out _ _ H1).2.rd (by have := HSH.out.2; omega))
              rw [decide_eq_true HDR.out.1] at CM
              have CM := Lib.hid CM
              have HH1 := Lib.hid H1
              clear x4 x5 x6 x7 x8 x9
              have Bx := H1.blk 3 (b := X) (t := 46) (c := #[.int .u8 d, .int .i8 on, .int .i64 raw, .int .u8 st, .slice na nodes.length nc, .slice ia infos.length ic, .int .i64 keep, .int .i64 way, .int .i64 old, .int .i64 new]) rfl
              have x4 : World.cell? w12 ⟨X, 4, none⟩ = some (.slice na nodes.length nc) := Bx.cell 4
              have x5 : World.cell? w12 ⟨X, 5, none⟩ = some (.slice ia infos.length ic) := Bx.cell 5
              have x6 : World.cell? w12 ⟨X, 6, none⟩ = some (.int .i64 keep) := Bx.cell 6
              have x7 : World.cell? w12 ⟨X, 7, none⟩ = some (.int .i64 way) := Bx.cell 7
              have x8 : World.cell? w12 ⟨X, 8, none⟩ = some (.int .i64 old) := Bx.cell 8
              have x9 : World.cell? w12 ⟨X, 9, none⟩ = some (.int .i64 new) := Bx.cell 9
              clear Bx
              clear C H1
              go_wp2_with fail
              refine CM.out.mono ?_
              rintro e w13 ⟨rfl, F13⟩
              have HH2 := Lib.hid (HH1.out.go F13)
              clear CM HH1 F13 x4 x5 x6 x7 x8 x9
              have Bx := HH2.out.blk 3 (b := X) (t := 46) (c := #[.int .u8 d, .int .i8 on, .int .i64 raw, .int .u8 st, .slice na nodes.length nc, .slice ia infos.length ic, .int .i64 keep, .int .i64 way, .int .i64 old, .int .i64 new]) rfl
              have x4 : World.cell? w13 ⟨X, 4, none⟩ = some (.slice na nodes.length nc) := Bx.cell 4
              have x5 : World.cell? w13 ⟨X, 5, none⟩ = some (.slice ia infos.length ic) := Bx.cell 5
              have x6 : World.cell? w13 ⟨X, 6, none⟩ = some (.int .i64 keep) := Bx.cell 6
              have x7 : World.cell? w13 ⟨X, 7, none⟩ = some (.int .i64 way) := Bx.cell 7
              have x8 : World.cell? w13 ⟨X, 8, none⟩ = some (.int .i64 old) := Bx.cell 8
              have x9 : World.cell? w13 ⟨X, 9, none⟩ = some (.int .i64 new) := Bx.cell 9
              clear Bx
              go_upto_region 27 with fail
              rw [show decide ((hs.length : Int) < if 65536 < most then 65536 else most) = true from decide_eq_true (by have := HDR.out.2; split <;> omega)]
              generalize (if 65536 < most then (65536 : Int) else most) = mn
              have CP := Lib.hid (Copy_calls _ _ nodes infos keep way old new w13 ((RN.out _ _ HH2.out).1.rd (by have := HSH.out.1; omega)) ((RN.out _ _ HH2.out).2.rd (by have := HSH.out.2; omega)))
              go_wp2_with fail
              refine CP.out.mono ?_
              rintro e w14 ⟨v, rfl, ⟨a2, c2, a3, c3, rfl, q2, q3, b2, b3⟩, F14⟩
              have H3 := HH2.out.push (p := heldP [(⟨.slice a2 nodes.length c2, .slice a3 infos.length c3, ⟨nodes, infos, keep, way, old, new, 1, false⟩⟩ : HE)]) (S := fun k => w13.heap.size ≤ k ∧ k < w14.heap.size) F14 (fun z hz => by
                simp at hz
                subst hz
                exact ⟨⟨q2.rdv, b2⟩, ⟨q3.rdv, b3⟩⟩) (fun _ h => h)
              have HH4 := Lib.hid (held_merge H3)
              obtain ⟨i0, hi0, hz0, hz1, hz2⟩ := info_parts info_entry
              have I0 := Lib.hid (And.intro hi0 (And.intro hz0 (And.intro hz1 hz2)))
              have QQ := Lib.hid (HH4.out.row 1 (t := 48) (sz := 8) (n := hs.length) (v := .slice ha hs.length hc) (us := hs.flatMap heC) rfl)
              have HL := Lib.hid (show hs.length + 1 ≤ maxLen ∧ (hs.length + 1) * 88 ≤ 140737488355328 by have := HSM.out.1; unfold maxLen; omega)
              clear H3 q2 q3 b2 b3 F14 CP HH2 hi0 hz0 hz1 hz2 x4 x5 x6 x7 x8 x9
              go_wp2_with (at_builtin; refine wpList_append_typed _ rfl _ _ _ (by rfl) 48 i0 (.agg #[.slice none 0 0, .slice none 0 0, .int .i64 0, .int .i64 0, .int .i64 0, .int .i64 0, .int .u8 0, .bool false]) 8 88 Try.underlying43 I0.out.1 I0.out.2.1 I0.out.2.2.1 I0.out.2.2.2 rfl (by decide) (.slice ha hs.length hc) hs.length (hs.flatMap heC) (by rfl) (QQ.out.fr (F := nob) (by repeat (first | exact Fr.refl _ _ | apply Fr.drew | apply Fr.alloc)) (fun _ _ _ x => x)) _ 1 [.slice a2 nodes.length c2, .slice a3 infos.length c3, .int .i64 keep, .int .i64 way, .int .i64 old, .int .i64 new, .int .u8 1, .bool false] (by rfl) (RdV.block (cs := #[.slice a2 nodes.length c2, .slice a3 infos.length c3, .int .i64 keep, .int .i64 way, .int .i64 old, .int .i64 new, .int .u8 1, .bool false]) (t := 48) (by repeat (first | exact Blk.new' rfl _ _ | apply Blk.drew | apply Blk.alloc)) rfl (by decide)) (by simp [Value.oneCell']) HL.out.1 HL.out.2 ?_)
              intro a9 c9 w15 q9 grow hat9
              have H5 := HH4.out.growRow 1 (t := 48) (sz := 8) (n := hs.length) (v := .slice ha hs.length hc) (us := hs.flatMap heC) rfl (Fr.alloc (Fr.refl nob w14) (.cells #[.slice a2 nodes.length c2, .slice a3 infos.length c3, .int .i64 keep, .int .i64 way, .int .i64 old, .int .i64 new, .int .u8 1, .bool false] 48)) q9 grow (fun g hg => (hat9 g hg).imp_left (fun h => h.imp_right (fun h => by simpa using h)))
              have H6 : Heap w w15 ([tabP t ⟨(hs ++ [(⟨.slice a2 nodes.length c2, .slice a3 infos.length c3, ⟨nodes, infos, keep, way, old, new, 1, false⟩⟩ : HE)]).map HE.e, lim most⟩, rowP 48 8 (.slice a9 (hs ++ [(⟨.slice a2 nodes.length c2, .slice a3 infos.length c3, ⟨nodes, infos, keep, way, old, new, 1, false⟩⟩ : HE)]).length c9) (hs ++ [(⟨.slice a2 nodes.length c2, .slice a3 infos.length c3, ⟨nodes, infos, keep, way, old, new, 1, false⟩⟩ : HE)]).length ((hs ++ [(⟨.slice a2 nodes.length c2, .slice a3 infos.length c3, ⟨nodes, infos, keep, way, old, new, 1, false⟩⟩ : HE)]).flatMap heC), heldP (hs ++ [(⟨.slice a2 nodes.length c2, .slice a3 infos.length c3, ⟨nodes, infos, keep, way, old, new, 1, false⟩⟩ : HE)])] ++ [blkP X 46 #[.int .u8 d, .int .i8 on, .int .i64 raw, .int .u8 st, .slice na nodes.length nc, .slice ia infos.length ic, .int .i64 keep, .int .i64 way, .int .i64 old, .int .i64 new], blkP E 48 #[y.vn, y.vi, .int .i64 y.e.keep, .int .i64 y.e.way, .int .i64 y.e.old, .int .i64 y.e.new, .int .u8 y.e.st, .bool y.e.all]]) := by
                have e1 : (hs ++ [(⟨.slice a2 nodes.length c2, .slice a3 infos.length c3, ⟨nodes, infos, keep, way, old, new, 1, false⟩⟩ : HE)]).length = hs.length + 1 := by simp
                have e2 : (hs ++ [(⟨.slice a2 nodes.length c2, .slice a3 infos.length c3, ⟨nodes, infos, keep, way, old, new, 1, false⟩⟩ : HE)]).flatMap heC = hs.flatMap heC ++ [.slice a2 nodes.length c2, .slice a3 infos.length c3, .int .i64 keep, .int .i64 way, .int .i64 old, .int .i64 new, .int .u8 1, .bool false] := by simp [heC]
                have e3 : (hs ++ [(⟨.slice a2 nodes.length c2, .slice a3 infos.length c3, ⟨nodes, infos, keep, way, old, new, 1, false⟩⟩ : HE)]).map HE.e = hs.map HE.e ++ [⟨nodes, infos, keep, way, old, new, 1, false⟩] := by simp
                rw [e1, e2, e3]
                exact H5
              have HX := Lib.hid (And.intro (show Lft d hs (hs ++ [(⟨.slice a2 nodes.length c2, .slice a3 infos.length c3, ⟨nodes, infos, keep, way, old, new, 1, false⟩⟩ : HE)]) _ ip y y from .inl ⟨HQD.out, rfl, by simp, fun x hx => by
                rcases List.mem_append.1 hx with hx | hx
                · exact HSM.out.2 x hx
                · simp at hx; subst hx; exact HSH.out⟩) H6)
              clear H5 H6 q9 grow hat9 QQ HH4
              go_wp2_with fail
              go_meet
              exact ⟨hs ++ [(⟨.slice a2 nodes.length c2, .slice a3 infos.length c3, ⟨nodes, infos, keep, way, old, new, 1, false⟩⟩ : HE)], _, y, a9, c9, by simp, rfl, HX⟩
            · have hmk : makeRt (⟨nodes, infos, keep, way, old, new⟩ : Rc) ⟨hs.map HE.e, lim most⟩ = ((0, false), ⟨hs.map HE.e, lim most⟩) := by
                unfold makeRt
                rw [if_neg]
                intro h
                exact h9 (room_is.1 (by have := h.2.2; dsimp only at this; rwa [List.length_map] at this))
              have C := Make_h HF9.out.2 0 rfl (⟨nodes, infos, keep, way, old, new⟩ : Rc) _ _ (RN.out _ _ HF9.out.2).1 (RN.out _ _ HF9.out.2).2 (by dsimp only; have := HSH.out.1; omega) (by dsimp only; have := HSH.out.2; omega)
              rw [hmk] at C
              have C := Lib.hid C
              clear hmk
              have HDR := Lib.hid h9
              have HM9 := Lib.hid hm
              clear h9 hm
              go_wp2_with fail
              refine C.out.mono ?_
              rintro e w12 ⟨rfl, H1⟩
              have H1 : Heap w w12 ([tabP t ⟨hs.map HE.e, lim most⟩, rowP 48 8 (.slice ha hs.length hc) hs.length (hs.flatMap heC), heldP hs] ++ [blkP X 46 #[.int .u8 d, .int .i8 on, .int .i64 raw, .int .u8 st, .slice na nodes.length nc, .slice ia infos.length ic, .int .i64 keep, .int .i64 way, .int .i64 old, .int .i64 new], blkP E 48 #[y.vn, y.vi, .int .i64 y.e.keep, .int .i64 y.e.way, .int .i64 y.e.old, .int .i64 y.e.new, .int .u8 y.e.st, .bool y.e.all]]) := H1
              have CM := May_calls _ _ nodes infos keep way old new w12 ((RN.out _ _ H1).1.rd (by have := HSH.out.1; omega)) ((RN.out _ _ H1).2.rd (by have := HSH.out.2; omega))
              rw [decide_eq_true HM9.out] at CM
              have CM := Lib.hid CM
              have HH1 := Lib.hid H1
              have Bx := H1.blk 3 (b := X) (t := 46) (c := #[.int .u8 d, .int .i8 on, .int .i64 raw, .int .u8 st, .slice na nodes.length nc, .slice ia infos.length ic, .int .i64 keep, .int .i64 way, .int .i64 old, .int .i64 new]) rfl
              have x4 : World.cell? w12 ⟨X, 4, none⟩ = some (.slice na nodes.length nc) := Bx.cell 4
              have x5 : World.cell? w12 ⟨X, 5, none⟩ = some (.slice ia infos.length ic) := Bx.cell 5
              have x6 : World.cell? w12 ⟨X, 6, none⟩ = some (.int .i64 keep) := Bx.cell 6
              have x7 : World.cell? w12 ⟨X, 7, none⟩ = some (.int .i64 way) := Bx.cell 7
              have x8 : World.cell? w12 ⟨X, 8, none⟩ = some (.int .i64 old) := Bx.cell 8
              have x9 : World.cell? w12 ⟨X, 9, none⟩ = some (.int .i64 new) := Bx.cell 9
              clear Bx
              clear C H1
              go_wp2_with fail
              refine CM.out.mono ?_
              rintro e w13 ⟨rfl, F13⟩
              have HX : Hid (Lft d hs hs (hs.map HE.e) ip y y ∧ Heap w w13 ([tabP t ⟨hs.map HE.e, lim most⟩, rowP 48 8 (.slice ha hs.length hc) hs.length (hs.flatMap heC), heldP hs] ++ [blkP X 46 #[.int .u8 d, .int .i8 on, .int .i64 raw, .int .u8 st, .slice na nodes.length nc, .slice ia infos.length ic, .int .i64 keep, .int .i64 way, .int .i64 old, .int .i64 new], blkP E 48 #[y.vn, y.vi, .int .i64 y.e.keep, .int .i64 y.e.way, .int .i64 y.e.old, .int .i64 y.e.new, .int .u8 y.e.st, .bool y.e.all]])) := Lib.hid ⟨.inl ⟨HQD.out, rfl, by omega, HSM.out.2⟩, HH1.out.go F13⟩
              clear CM HH1 F13 x4 x5 x6 x7 x8 x9
              go_upto_region 27 with fail
              rw [show decide ((hs.length : Int) < if 65536 < most then 65536 else most) = false from decide_eq_false (by have := HDR.out; split <;> omega)]
              generalize (if 65536 < most then (65536 : Int) else most) = mn
              go_wp2_with fail
              go_meet
              exact ⟨hs, _, y, ha, hc, rfl, rfl, HX⟩
          · have h9 := hm
            clear hm
            have hmk : makeRt (⟨nodes, infos, keep, way, old, new⟩ : Rc) ⟨hs.map HE.e, lim most⟩ = ((0, false), ⟨hs.map HE.e, lim most⟩) := by
              unfold makeRt
              rw [if_neg]
              intro h
              exact h9 ⟨h.1, h.2.1⟩
            have C := Make_h HF9.out.2 0 rfl (⟨nodes, infos, keep, way, old, new⟩ : Rc) _ _ (RN.out _ _ HF9.out.2).1 (RN.out _ _ HF9.out.2).2 (by dsimp only; have := HSH.out.1; omega) (by dsimp only; have := HSH.out.2; omega)
            rw [hmk] at C
            have C := Lib.hid C
            clear hmk
            have HDR := Lib.hid h9
            clear h9
            go_wp2_with fail
            refine C.out.mono ?_
            rintro e w12 ⟨rfl, H1⟩
            have H1 : Heap w w12 ([tabP t ⟨hs.map HE.e, lim most⟩, rowP 48 8 (.slice ha hs.length hc) hs.length (hs.flatMap heC), heldP hs] ++ [blkP X 46 #[.int .u8 d, .int .i8 on, .int .i64 raw, .int .u8 st, .slice na nodes.length nc, .slice ia infos.length ic, .int .i64 keep, .int .i64 way, .int .i64 old, .int .i64 new], blkP E 48 #[y.vn, y.vi, .int .i64 y.e.keep, .int .i64 y.e.way, .int .i64 y.e.old, .int .i64 y.e.new, .int .u8 y.e.st, .bool y.e.all]]) := H1
            have CM := May_calls _ _ nodes infos keep way old new w12 ((RN.out _ _ H1).1.rd (by have := HSH.out.1; omega)) ((RN.out _ _ H1).2.rd (by have := HSH.out.2; omega))
            rw [decide_eq_false HDR.out] at CM
            have CM := Lib.hid CM
            have HH1 := Lib.hid H1
            have Bx := H1.blk 3 (b := X) (t := 46) (c := #[.int .u8 d, .int .i8 on, .int .i64 raw, .int .u8 st, .slice na nodes.length nc, .slice ia infos.length ic, .int .i64 keep, .int .i64 way, .int .i64 old, .int .i64 new]) rfl
            have x4 : World.cell? w12 ⟨X, 4, none⟩ = some (.slice na nodes.length nc) := Bx.cell 4
            have x5 : World.cell? w12 ⟨X, 5, none⟩ = some (.slice ia infos.length ic) := Bx.cell 5
            have x6 : World.cell? w12 ⟨X, 6, none⟩ = some (.int .i64 keep) := Bx.cell 6
            have x7 : World.cell? w12 ⟨X, 7, none⟩ = some (.int .i64 way) := Bx.cell 7
            have x8 : World.cell? w12 ⟨X, 8, none⟩ = some (.int .i64 old) := Bx.cell 8
            have x9 : World.cell? w12 ⟨X, 9, none⟩ = some (.int .i64 new) := Bx.cell 9
            clear Bx
            clear C H1
            go_wp2_with fail
            refine CM.out.mono ?_
            rintro e w13 ⟨rfl, F13⟩
            have HX : Hid (Lft d hs hs (hs.map HE.e) ip y y ∧ Heap w w13 ([tabP t ⟨hs.map HE.e, lim most⟩, rowP 48 8 (.slice ha hs.length hc) hs.length (hs.flatMap heC), heldP hs] ++ [blkP X 46 #[.int .u8 d, .int .i8 on, .int .i64 raw, .int .u8 st, .slice na nodes.length nc, .slice ia infos.length ic, .int .i64 keep, .int .i64 way, .int .i64 old, .int .i64 new], blkP E 48 #[y.vn, y.vi, .int .i64 y.e.keep, .int .i64 y.e.way, .int .i64 y.e.old, .int .i64 y.e.new, .int .u8 y.e.st, .bool y.e.all]])) := Lib.hid ⟨.inl ⟨HQD.out, rfl, by omega, HSM.out.2⟩, HH1.out.go F13⟩
            clear CM HH1 F13 x4 x5 x6 x7 x8 x9
            go_wp2_with fail
            go_meet
            exact ⟨hs, _, y, ha, hc, rfl, rfl, HX⟩
        · go_upto_region 31 with fail
          have q0 : (World.drew w10).cell? ⟨E, 0, none⟩ = some y.vn ∧ (World.drew w10).cell? ⟨E, 1, none⟩ = some y.vi ∧ (World.drew w10).cell? ⟨E, 2, none⟩ = some (.int .i64 y.e.keep) ∧ (World.drew w10).cell? ⟨E, 3, none⟩ = some (.int .i64 y.e.way) ∧ (World.drew w10).cell? ⟨E, 4, none⟩ = some (.int .i64 y.e.old) ∧ (World.drew w10).cell? ⟨E, 5, none⟩ = some (.int .i64 y.e.new) := (by have B := HF9.out.2.drew.blk 4 (b := E) (t := 48) (c := #[y.vn, y.vi, .int .i64 y.e.keep, .int .i64 y.e.way, .int .i64 y.e.old, .int .i64 y.e.new, .int .u8 y.e.st, .bool y.e.all]) rfl; exact ⟨B.cell 0, B.cell 1, B.cell 2, B.cell 3, B.cell 4, B.cell 5⟩)
          have CLk := RtLook_h HF9.out.2.drew 0 rfl n
          rw [HF9.out.1.look] at CLk
          have CLk := Lib.hid CLk
          refine wp_region_noPanic ?_
          refine AnyK.start (ks := [5, 6]) (S := fun w' => w'.cell? ⟨E, 0, none⟩ = some y.vn ∧ w'.cell? ⟨E, 1, none⟩ = some y.vi ∧ w'.cell? ⟨E, 2, none⟩ = some (.int .i64 y.e.keep) ∧ w'.cell? ⟨E, 3, none⟩ = some (.int .i64 y.e.way) ∧ w'.cell? ⟨E, 4, none⟩ = some (.int .i64 y.e.old) ∧ w'.cell? ⟨E, 5, none⟩ = some (.int .i64 y.e.new)) (by kernel_rfl) (by exact q0) (fun _ => ?_)
          refine AnyK.takeB (i := 0) (v := ?_) rfl (by kernel_rfl) (by kernel_rfl) (by kernel_rfl) (by kernel_rfl) (fun _ _ _ h => h) (Or.inl ⟨by rfl, ?_⟩) (by exact q0) ?_
          rotate_left
          focus
            intro w9 hSw
            try dsimp only at hSw
            go_simp
            try with_reducible rfl
          try simp only [Act.put, List.setIfInBounds_toArray, List.set_cons_zero, List.set_cons_succ]
          refine AnyK.takeB (i := 1) (v := ?_) rfl (by kernel_rfl) (by kernel_rfl) (by kernel_rfl) (by kernel_rfl) (fun _ _ _ h => h) (Or.inl ⟨by rfl, ?_⟩) (by exact q0) ?_
          rotate_left
          focus
            intro w9 hSw
            try dsimp only at hSw
            go_simp
            try with_reducible rfl
          try simp only [Act.put, List.setIfInBounds_toArray, List.set_cons_zero, List.set_cons_succ]
          refine AnyK.takeB (i := 3) (v := ?_) rfl (by kernel_rfl) (by kernel_rfl) (by kernel_rfl) (by kernel_rfl) (fun _ _ _ h => h) (Or.inl ⟨by rfl, ?_⟩) (by exact q0) ?_
          rotate_left
          focus
            intro w9 hSw
            try dsimp only at hSw
            go_simp
            try with_reducible rfl
          try simp only [Act.put, List.setIfInBounds_toArray, List.set_cons_zero, List.set_cons_succ]
          refine AnyK.takeB (i := 4) (v := ?_) rfl (by kernel_rfl) (by kernel_rfl) (by kernel_rfl) (by kernel_rfl) (fun _ _ _ h => h) (Or.inl ⟨by rfl, ?_⟩) (by exact q0) ?_
          rotate_left
          focus
            intro w9 hSw
            try dsimp only at hSw
            go_simp
            try with_reducible rfl
          try simp only [Act.put, List.setIfInBounds_toArray, List.set_cons_zero, List.set_cons_succ]
          refine AnyK.one (i := 2) (by kernel_rfl) rfl (fun K9 hK9 => ?_)
          go_simp
          refine CLk.out.mono ?_
          rintro e z1 ⟨a2, c2, a3, c3, rfl, H1⟩
          have q1 : World.cell? z1 ⟨E, 0, none⟩ = some y.vn ∧ World.cell? z1 ⟨E, 1, none⟩ = some y.vi ∧ World.cell? z1 ⟨E, 2, none⟩ = some (.int .i64 y.e.keep) ∧ World.cell? z1 ⟨E, 3, none⟩ = some (.int .i64 y.e.way) ∧ World.cell? z1 ⟨E, 4, none⟩ = some (.int .i64 y.e.old) ∧ World.cell? z1 ⟨E, 5, none⟩ = some (.int .i64 y.e.new) := (by have B := H1.blk 4 (b := E) (t := 48) (c := #[y.vn, y.vi, .int .i64 y.e.keep, .int .i64 y.e.way, .int .i64 y.e.old, .int .i64 y.e.new, .int .u8 y.e.st, .bool y.e.all]) rfl; exact ⟨B.cell 0, B.cell 1, B.cell 2, B.cell 3, B.cell 4, B.cell 5⟩)
          refine hK9.out _ _ (fun _ => q1) ?_
          clear hK9 K9 q0
          try simp only [Act.put, List.setIfInBounds_toArray, List.set_cons_zero, List.set_cons_succ]
          have hfy := HF9.out.1.few HSM.out.2
          obtain ⟨ry1, ry2⟩ := HF9.out.1.rd H1 2 rfl
          have CSm := Lib.hid (Same_true _ _ _ _ y.e.nodes y.e.infos y.e.keep y.e.way y.e.old y.e.new z1 ((H1.row 5 (t := 29) (sz := 1) (n := y.e.nodes.length) (v := .slice a2 y.e.nodes.length c2) (us := intC y.e.nodes) rfl).rdv.rd (by have := hfy.1; omega)) ((H1.row 6 (t := 2) (sz := 1) (n := y.e.infos.length) (v := .slice a3 y.e.infos.length c3) (us := intC y.e.infos) rfl).rdv.rd (by have := hfy.2; omega)) (ry1.rd (by have := hfy.1; omega)) (ry2.rd (by have := hfy.2; omega)))
          have HH1 := Lib.hid (H1.first (l := [tabP t ⟨hs.map HE.e, lim most⟩, rowP 48 8 (.slice ha hs.length hc) hs.length (hs.flatMap heC), heldP hs] ++ [blkP X 46 #[.int .u8 d, .int .i8 on, .int .i64 raw, .int .u8 st, .slice na nodes.length nc, .slice ia infos.length ic, .int .i64 keep, .int .i64 way, .int .i64 old, .int .i64 new], blkP E 48 #[y.vn, y.vi, .int .i64 y.e.keep, .int .i64 y.e.way, .int .i64 y.e.old, .int .i64 y.e.new, .int .u8 y.e.st, .bool y.e.all]]))
          clear H1 hfy ry1 ry2 CLk
          refine AnyK.one (i := 5) (by kernel_rfl) rfl (fun K9 hK9 => ?_)
          go_simp
          refine CSm.out.mono ?_
          rintro e z2 ⟨rfl, F2⟩
          refine hK9.out _ _ (fun hx => absurd (by decide) hx) ?_
          clear hK9 K9
          try simp only [Act.put, List.setIfInBounds_toArray, List.set_cons_zero, List.set_cons_succ]
          refine AnyK.phase (S' := fun _ => True) (ks' := []) (by kernel_rfl) ?_
          refine AnyK.one (i := 6) (by kernel_rfl) rfl (fun K9 hK9 => ?_)
          go_simp
          refine hK9.out _ _ (fun _ => trivial) ?_
          clear hK9 K9
          try simp only [Act.put, List.setIfInBounds_toArray, List.set_cons_zero, List.set_cons_succ]
          refine AnyK.done (by kernel_rfl) ?_ _
          refine NoPanic.normal ?_
          have HX := Lib.hid (And.intro (HF9.out.1.stays (d := d) (by rw [HQD.out]; decide)) (HH1.out.go F2))
          clear HH1 F2 CSm q1
          go_wp2_with fail
          go_meet
          exact ⟨hs, _, y, ha, hc, rfl, rfl, HX⟩
        · go_upto_region 33 with fail
          have Bz := HF9.out.2.blk 4 (b := E) (t := 48) (c := #[y.vn, y.vi, .int .i64 y.e.keep, .int .i64 y.e.way, .int .i64 y.e.old, .int .i64 y.e.new, .int .u8 y.e.st, .bool y.e.all]) rfl
          have z6 : World.cell? w10 ⟨E, 6, none⟩ = some (.int .u8 y.e.st) := Bz.cell 6
          clear Bz
          have CS : Hid (∀ z, Heap w z ([tabP t ⟨hs.map HE.e, lim most⟩, rowP 48 8 (.slice ha hs.length hc) hs.length (hs.flatMap heC), heldP hs] ++ [blkP X 46 #[.int .u8 d, .int .i8 on, .int .i64 raw, .int .u8 st, .slice na nodes.length nc, .slice ia infos.length ic, .int .i64 keep, .int .i64 way, .int .i64 old, .int .i64 new], blkP E 48 #[y.vn, y.vi, .int .i64 y.e.keep, .int .i64 y.e.way, .int .i64 y.e.old, .int .i64 y.e.new, .int .u8 y.e.st, .bool y.e.all]]) → Calls Try.prog 18 #[.pointer (some ⟨t, 0, none⟩), .int .i64 n] z (fun e w' => e = .returned (.int .u8 y.e.st) ∧ w' = z)) := Lib.hid (fun z hz => by
            have C := State_h hz 0 rfl n
            rw [HF9.out.1.state] at C
            exact C)
          go_quiet ((go_at_call 18; exact Calls.quiet_of_same (CS.out _ (HF9.out.2.drewN _))))
          have HX := Lib.hid (And.intro (HF9.out.1.stays (d := d) (by rw [HQD.out]; decide)) (HF9.out.2.drewN nq))
          go_wp2_with fail
          go_meet
          exact ⟨hs, _, y, ha, hc, rfl, by simp, HX⟩
        · go_upto_region 35 with fail
          have Bx := HF9.out.2.blk 3 (b := X) (t := 46) (c := #[.int .u8 d, .int .i8 on, .int .i64 raw, .int .u8 st, .slice na nodes.length nc, .slice ia infos.length ic, .int .i64 keep, .int .i64 way, .int .i64 old, .int .i64 new]) rfl
          have x3 : World.cell? w10 ⟨X, 3, none⟩ = some (.int .u8 st) := Bx.cell 3
          clear Bx
          have C := Set_h HF9.out.2 0 rfl n st
          have C := Lib.hid C
          go_wp2_with fail
          refine C.out.mono ?_
          rintro e w12 ⟨rfl, H1⟩
          clear C x3
          have H1 : Heap w w12 ([tabP t ⟨putOf (hs.map HE.e) n fun e => { e with st := st }, lim most⟩, rowP 48 8 (.slice ha hs.length hc) hs.length (hs.flatMap heC), heldP hs] ++ [blkP X 46 #[.int .u8 d, .int .i8 on, .int .i64 raw, .int .u8 st, .slice na nodes.length nc, .slice ia infos.length ic, .int .i64 keep, .int .i64 way, .int .i64 old, .int .i64 new], blkP E 48 #[y.vn, y.vi, .int .i64 y.e.keep, .int .i64 y.e.way, .int .i64 y.e.old, .int .i64 y.e.new, .int .u8 y.e.st, .bool y.e.all]]) := H1
          have Bx := H1.blk 3 (b := X) (t := 46) (c := #[.int .u8 d, .int .i8 on, .int .i64 raw, .int .u8 st, .slice na nodes.length nc, .slice ia infos.length ic, .int .i64 keep, .int .i64 way, .int .i64 old, .int .i64 new]) rfl
          have x3 : World.cell? w12 ⟨X, 3, none⟩ = some (.int .u8 st) := Bx.cell 3
          clear Bx
          have Bz := H1.blk 4 (b := E) (t := 48) (c := #[y.vn, y.vi, .int .i64 y.e.keep, .int .i64 y.e.way, .int .i64 y.e.old, .int .i64 y.e.new, .int .u8 y.e.st, .bool y.e.all]) rfl
          have z6 : World.cell? w12 ⟨E, 6, none⟩ = some (.int .u8 y.e.st) := Bz.cell 6
          have fz6 := Bz.froz 6
          clear Bz
          have H2 : Heap w _ ([tabP t ⟨putOf (hs.map HE.e) n fun e => { e with st := st }, lim most⟩, rowP 48 8 (.slice ha hs.length hc) hs.length (hs.flatMap heC), heldP hs] ++ [blkP X 46 #[.int .u8 d, .int .i8 on, .int .i64 raw, .int .u8 st, .slice na nodes.length nc, .slice ia infos.length ic, .int .i64 keep, .int .i64 way, .int .i64 old, .int .i64 new], blkP E 48 #[({ y with e := { y.e with st := st } } : HE).vn, ({ y with e := { y.e with st := st } } : HE).vi, .int .i64 ({ y with e := { y.e with st := st } } : HE).e.keep, .int .i64 ({ y with e := { y.e with st := st } } : HE).e.way, .int .i64 ({ y with e := { y.e with st := st } } : HE).e.old, .int .i64 ({ y with e := { y.e with st := st } } : HE).e.new, .int .u8 ({ y with e := { y.e with st := st } } : HE).e.st, .bool ({ y with e := { y.e with st := st } } : HE).e.all]]) := H1.setCell 4 rfl 6 (.int .u8 st)
          have HX := Lib.hid (And.intro (HF9.out.1.puts (d := d) (by rw [HQD.out]; decide) (fun e => { e with st := st }) rfl rfl) H2)
          clear H1 H2
          go_wp2_with fail
          go_meet
          exact ⟨hs, _, _, ha, hc, rfl, rfl, HX⟩
        · go_upto_region 38 with fail
          have Bz := HF9.out.2.blk 4 (b := E) (t := 48) (c := #[y.vn, y.vi, .int .i64 y.e.keep, .int .i64 y.e.way, .int .i64 y.e.old, .int .i64 y.e.new, .int .u8 y.e.st, .bool y.e.all]) rfl
          have z7 : World.cell? w10 ⟨E, 7, none⟩ = some (.bool y.e.all) := Bz.cell 7
          clear Bz
          have CS : Hid (∀ z, Heap w z ([tabP t ⟨hs.map HE.e, lim most⟩, rowP 48 8 (.slice ha hs.length hc) hs.length (hs.flatMap heC), heldP hs] ++ [blkP X 46 #[.int .u8 d, .int .i8 on, .int .i64 raw, .int .u8 st, .slice na nodes.length nc, .slice ia infos.length ic, .int .i64 keep, .int .i64 way, .int .i64 old, .int .i64 new], blkP E 48 #[y.vn, y.vi, .int .i64 y.e.keep, .int .i64 y.e.way, .int .i64 y.e.old, .int .i64 y.e.new, .int .u8 y.e.st, .bool y.e.all]]) → Calls Try.prog 19 #[.pointer (some ⟨t, 0, none⟩), .int .i64 n] z (fun e w' => e = .returned (.bool y.e.all) ∧ w' = z)) := Lib.hid (fun z hz => by
            have C := All_h hz 0 rfl n
            rw [HF9.out.1.all] at C
            exact C)
          go_quiet ((go_at_call 19; exact Calls.quiet_of_same (CS.out _ (HF9.out.2.drewN _))))
          have HX := Lib.hid (And.intro (HF9.out.1.stays (d := d) (by rw [HQD.out]; decide)) (HF9.out.2.drewN nq))
          go_wp2_with fail
          go_meet
          exact ⟨hs, _, y, ha, hc, rfl, by simp, HX⟩
        · go_upto_region 22 with fail
          have Bx := HF9.out.2.blk 3 (b := X) (t := 46) (c := #[.int .u8 d, .int .i8 on, .int .i64 raw, .int .u8 st, .slice na nodes.length nc, .slice ia infos.length ic, .int .i64 keep, .int .i64 way, .int .i64 old, .int .i64 new]) rfl
          have x3 : World.cell? w10 ⟨X, 3, none⟩ = some (.int .u8 st) := Bx.cell 3
          clear Bx
          have C := SetAll_h HF9.out.2 0 rfl n
          have C := Lib.hid C
          go_wp2_with fail
          refine C.out.mono ?_
          rintro e w12 ⟨rfl, H1⟩
          clear C x3
          have H1 : Heap w w12 ([tabP t ⟨putOf (hs.map HE.e) n fun e => { e with all := true }, lim most⟩, rowP 48 8 (.slice ha hs.length hc) hs.length (hs.flatMap heC), heldP hs] ++ [blkP X 46 #[.int .u8 d, .int .i8 on, .int .i64 raw, .int .u8 st, .slice na nodes.length nc, .slice ia infos.length ic, .int .i64 keep, .int .i64 way, .int .i64 old, .int .i64 new], blkP E 48 #[y.vn, y.vi, .int .i64 y.e.keep, .int .i64 y.e.way, .int .i64 y.e.old, .int .i64 y.e.new, .int .u8 y.e.st, .bool y.e.all]]) := H1
          have Bx := H1.blk 3 (b := X) (t := 46) (c := #[.int .u8 d, .int .i8 on, .int .i64 raw, .int .u8 st, .slice na nodes.length nc, .slice ia infos.length ic, .int .i64 keep, .int .i64 way, .int .i64 old, .int .i64 new]) rfl
          have x3 : World.cell? w12 ⟨X, 3, none⟩ = some (.int .u8 st) := Bx.cell 3
          clear Bx
          have Bz := H1.blk 4 (b := E) (t := 48) (c := #[y.vn, y.vi, .int .i64 y.e.keep, .int .i64 y.e.way, .int .i64 y.e.old, .int .i64 y.e.new, .int .u8 y.e.st, .bool y.e.all]) rfl
          have z7 : World.cell? w12 ⟨E, 7, none⟩ = some (.bool y.e.all) := Bz.cell 7
          have fz7 := Bz.froz 7
          clear Bz
          have H2 : Heap w _ ([tabP t ⟨putOf (hs.map HE.e) n fun e => { e with all := true }, lim most⟩, rowP 48 8 (.slice ha hs.length hc) hs.length (hs.flatMap heC), heldP hs] ++ [blkP X 46 #[.int .u8 d, .int .i8 on, .int .i64 raw, .int .u8 st, .slice na nodes.length nc, .slice ia infos.length ic, .int .i64 keep, .int .i64 way, .int .i64 old, .int .i64 new], blkP E 48 #[({ y with e := { y.e with all := true } } : HE).vn, ({ y with e := { y.e with all := true } } : HE).vi, .int .i64 ({ y with e := { y.e with all := true } } : HE).e.keep, .int .i64 ({ y with e := { y.e with all := true } } : HE).e.way, .int .i64 ({ y with e := { y.e with all := true } } : HE).e.old, .int .i64 ({ y with e := { y.e with all := true } } : HE).e.new, .int .u8 ({ y with e := { y.e with all := true } } : HE).e.st, .bool ({ y with e := { y.e with all := true } } : HE).e.all]]) := H1.setCell 4 rfl 7 (.bool true)
          have HX := Lib.hid (And.intro (HF9.out.1.puts (d := d) (by rw [HQD.out]; decide) (fun e => { e with all := true }) rfl rfl) H2)
          clear H1 H2
          go_wp2_with fail
          go_meet
          exact ⟨hs, _, _, ha, hc, rfl, rfl, HX⟩
      case rest =>
      obtain ⟨hs', es', y', ha', hc', rfl, rfl, HL⟩ := hcut
      have HFN := Lib.hid HF9.out.1
      clear HF9
      rename World => w11
      go_upto_region 39 with fail
      have Bx := HL.out.2.blk 3 (b := X) (t := 46) (c := #[.int .u8 d, .int .i8 on, .int .i64 raw, .int .u8 st, .slice na nodes.length nc, .slice ia infos.length ic, .int .i64 keep, .int .i64 way, .int .i64 old, .int .i64 new]) rfl
      have x0 : World.cell? w11 ⟨X, 0, none⟩ = some (.int .u8 d) := Bx.cell 0
      clear Bx
      have HX0 : Hid (Heap w w11 ([tabP t ⟨es', lim most⟩, rowP 48 8 (.slice ha' hs'.length hc') hs'.length (hs'.flatMap heC), heldP hs'] ++ [blkP X 46 #[.int .u8 d, .int .i8 on, .int .i64 raw, .int .u8 st, .slice na nodes.length nc, .slice ia infos.length ic, .int .i64 keep, .int .i64 way, .int .i64 old, .int .i64 new], blkP E 48 #[y'.vn, y'.vi, .int .i64 y'.e.keep, .int .i64 y'.e.way, .int .i64 y'.e.old, .int .i64 y'.e.new, .int .u8 y'.e.st, .bool y'.e.all]])) := Lib.hid HL.out.2
      have HLF := Lib.hid HL.out.1
      clear HL
      go_cut [151] from 144 to 151 (fun s151 wx => ∃ b : Bool, s151 = .bool b ∧ Hid (b = true ↔ (0 ≤ ip ∧ d % 6 ≠ 0)) ∧ Hid (Heap w wx ([tabP t ⟨es', lim most⟩, rowP 48 8 (.slice ha' hs'.length hc') hs'.length (hs'.flatMap heC), heldP hs'] ++ [blkP X 46 #[.int .u8 d, .int .i8 on, .int .i64 raw, .int .u8 st, .slice na nodes.length nc, .slice ia infos.length ic, .int .i64 keep, .int .i64 way, .int .i64 old, .int .i64 new], blkP E 48 #[y'.vn, y'.vi, .int .i64 y'.e.keep, .int .i64 y'.e.way, .int .i64 y'.e.old, .int .i64 y'.e.new, .int .u8 y'.e.st, .bool y'.e.all]])))
      case first =>
        by_cases h1 : 0 ≤ ip
        · have h1' := Lib.hid h1
          by_cases h2 : d % 6 = 0
          · go_wp2_with fail
            go_meet
            exact ⟨false, rfl, Lib.hid ⟨fun h => by simp at h, fun h => absurd h2 h.2⟩, HX0⟩
          · have fb : (d % 6 == 0) = false := beq_eq_false_iff_ne.2 h2
            have h2' := Lib.hid h2
            clear h2
            go_wp2_with fail
            go_meet
            exact ⟨true, by simp [bne, fb], Lib.hid ⟨fun _ => ⟨h1'.out, h2'.out⟩, fun _ => rfl⟩, HX0⟩
        · have h1' := Lib.hid h1
          go_wp2_with fail
          go_meet
          exact ⟨false, rfl, Lib.hid ⟨fun h => by simp at h, fun h => by have := h1'.out; omega⟩, HX0⟩
      case rest =>
      obtain ⟨b9, rfl, HB9, HX⟩ := hcut
      clear HX0 x0
      rename World => w12
      rename ∀ (a : Act) (w : World), Code.wp Try.prog _ _ a w → _ => hK8
      refine hK8 _ _ ?_
      clear hK8
      go_cut [] from 151 to 155 (fun wx => ∃ hs2 : List HE, Hid (hs2.length = hs'.length ∧ hs2.length ≤ k + 1 ∧ (∀ x ∈ hs2, fewE x) ∧ Heap w wx ([tabP t ⟨hs2.map HE.e, lim most⟩, rowP 48 8 (.slice ha' hs'.length hc') hs2.length (hs2.flatMap heC), heldP hs2])))
      case first =>
        cases b9 with
        | true =>
          obtain ⟨hip, hd6⟩ := HB9.out.1 rfl
          obtain ⟨p, rfl⟩ : ∃ p : Nat, ip = (p : Int) := ⟨ip.toNat, by omega⟩
          have hyp : hs[p]? = some y := by
            rcases HFN.out with ⟨h, _⟩ | ⟨q, h, _, h3⟩
            · omega
            · obtain rfl : q = p := by omega
              exact h3
          rcases HLF.out with ⟨h, _⟩ | ⟨_, rfl, e1, e2, e3, e4, e5, _⟩
          · exact absurd h hd6
          · have e5 := e5 p rfl
            subst e5
            have hpl : p < hs'.length := (List.getElem?_eq_some_iff.1 hyp).1
            have hpi : (p : Int) < (hs'.length : Int) := by omega
            obtain ⟨r1, r2⟩ := HX.out.held 2 rfl (List.mem_of_getElem? hyp)
            obtain ⟨vy, wy, ⟨en, ei, ek, ew, eo, enw, est, eal⟩⟩ := y'
            obtain ⟨vy2, wy2, ⟨en2, ei2, ek2, ew2, eo2, enw2, est2, eal2⟩⟩ := y
            dsimp only at e1 e2 e3 e4 r1 r2
            subst e1 e2 e3 e4
            obtain ⟨p1, q1, rfl⟩ := r1.len
            obtain ⟨p2, q2, rfl⟩ := r2.len
            obtain ⟨g, off, cur, rfl, _, _, _⟩ := (HX.out.row 1 (t := 48) (sz := 8) (n := hs'.length) (v := .slice ha' hs'.length hc') (us := hs'.flatMap heC) rfl).at (by omega)
            obtain ⟨ec, ef⟩ := HX.out.elemG 1 heC_len (t := 48) (g := g) (off := off) (cap := hc') (l := hs') rfl hyp
            have t0 : World.cell? w12 ⟨g, off + p * 8, none⟩ = some (.slice p1 en.length q1) := ec 0 _ rfl
            have z0 : World.frozen? w12 ⟨g, off + p * 8, none⟩ = false := ef _
            have t1 : World.cell? w12 ⟨g, off + p * 8 + 1, none⟩ = some (.slice p2 ei.length q2) := ec 1 _ rfl
            have z1 : World.frozen? w12 ⟨g, off + p * 8 + 1, none⟩ = false := ef _
            have t2 : World.cell? w12 ⟨g, off + p * 8 + 2, none⟩ = some (.int .i64 ek2) := ec 2 _ rfl
            have z2 : World.frozen? w12 ⟨g, off + p * 8 + 2, none⟩ = false := ef _
            have t3 : World.cell? w12 ⟨g, off + p * 8 + 3, none⟩ = some (.int .i64 ew2) := ec 3 _ rfl
            have z3 : World.frozen? w12 ⟨g, off + p * 8 + 3, none⟩ = false := ef _
            have t4 : World.cell? w12 ⟨g, off + p * 8 + 4, none⟩ = some (.int .i64 eo2) := ec 4 _ rfl
            have z4 : World.frozen? w12 ⟨g, off + p * 8 + 4, none⟩ = false := ef _
            have t5 : World.cell? w12 ⟨g, off + p * 8 + 5, none⟩ = some (.int .i64 enw2) := ec 5 _ rfl
            have z5 : World.frozen? w12 ⟨g, off + p * 8 + 5, none⟩ = false := ef _
            have t6 : World.cell? w12 ⟨g, off + p * 8 + 6, none⟩ = some (.int .u8 est2) := ec 6 _ rfl
            have z6 : World.frozen? w12 ⟨g, off + p * 8 + 6, none⟩ = false := ef _
            have t7 : World.cell? w12 ⟨g, off + p * 8 + 7, none⟩ = some (.bool eal2) := ec 7 _ rfl
            have z7 : World.frozen? w12 ⟨g, off + p * 8 + 7, none⟩ = false := ef _
            have fw : fewE (⟨.slice p1 en.length q1, .slice p2 ei.length q2, ⟨en, ei, ek, ew, eo, enw, est, eal⟩⟩ : HE) := by have h := HSM.out.2 _ (List.mem_of_getElem? hyp); exact h
            have H8 := HX.out.fillG 1 heC_len (t := 48) (g := g) (off := off) (cap := hc') (l := hs') rfl hpl (⟨.slice p1 en.length q1, .slice p2 ei.length q2, ⟨en, ei, ek, ew, eo, enw, est, eal⟩⟩ : HE)
            have H9 := H8.imp 2 (p := heldP hs') (q := heldP (hs'.set p (⟨.slice p1 en.length q1, .slice p2 ei.length q2, ⟨en, ei, ek, ew, eo, enw, est, eal⟩⟩ : HE))) rfl (fun S hS x hx => by
              rcases List.mem_or_eq_of_mem_set hx with hx | rfl
              · exact hS x hx
              · have h := hS _ (List.mem_of_getElem? hyp); exact h)
            have H10 : Heap w (World.setCells w12 g (off + p * 8) (heC (⟨.slice p1 en.length q1, .slice p2 ei.length q2, ⟨en, ei, ek, ew, eo, enw, est, eal⟩⟩ : HE))) ([tabP t ⟨(hs'.set p (⟨.slice p1 en.length q1, .slice p2 ei.length q2, ⟨en, ei, ek, ew, eo, enw, est, eal⟩⟩ : HE)).map HE.e, lim most⟩, rowP 48 8 (.slice (some ⟨g, off, none⟩) hs'.length hc') (hs'.set p (⟨.slice p1 en.length q1, .slice p2 ei.length q2, ⟨en, ei, ek, ew, eo, enw, est, eal⟩⟩ : HE)).length ((hs'.set p (⟨.slice p1 en.length q1, .slice p2 ei.length q2, ⟨en, ei, ek, ew, eo, enw, est, eal⟩⟩ : HE)).flatMap heC), heldP (hs'.set p (⟨.slice p1 en.length q1, .slice p2 ei.length q2, ⟨en, ei, ek, ew, eo, enw, est, eal⟩⟩ : HE))] ++ [blkP X 46 #[.int .u8 d, .int .i8 on, .int .i64 raw, .int .u8 st, .slice na nodes.length nc, .slice ia infos.length ic, .int .i64 keep, .int .i64 way, .int .i64 old, .int .i64 new], blkP E 48 #[(⟨.slice p1 en.length q1, .slice p2 ei.length q2, ⟨en, ei, ek, ew, eo, enw, est, eal⟩⟩ : HE).vn, (⟨.slice p1 en.length q1, .slice p2 ei.length q2, ⟨en, ei, ek, ew, eo, enw, est, eal⟩⟩ : HE).vi, .int .i64 (⟨.slice p1 en.length q1, .slice p2 ei.length q2, ⟨en, ei, ek, ew, eo, enw, est, eal⟩⟩ : HE).e.keep, .int .i64 (⟨.slice p1 en.length q1, .slice p2 ei.length q2, ⟨en, ei, ek, ew, eo, enw, est, eal⟩⟩ : HE).e.way, .int .i64 (⟨.slice p1 en.length q1, .slice p2 ei.length q2, ⟨en, ei, ek, ew, eo, enw, est, eal⟩⟩ : HE).e.old, .int .i64 (⟨.slice p1 en.length q1, .slice p2 ei.length q2, ⟨en, ei, ek, ew, eo, enw, est, eal⟩⟩ : HE).e.new, .int .u8 (⟨.slice p1 en.length q1, .slice p2 ei.length q2, ⟨en, ei, ek, ew, eo, enw, est, eal⟩⟩ : HE).e.st, .bool (⟨.slice p1 en.length q1, .slice p2 ei.length q2, ⟨en, ei, ek, ew, eo, enw, est, eal⟩⟩ : HE).e.all]]) := by
              rw [List.length_set]
              exact H9
            have HZ := Lib.hid (And.intro (show (hs'.set p (⟨.slice p1 en.length q1, .slice p2 ei.length q2, ⟨en, ei, ek, ew, eo, enw, est, eal⟩⟩ : HE)).length = hs'.length by rw [List.length_set]) (And.intro (show (hs'.set p (⟨.slice p1 en.length q1, .slice p2 ei.length q2, ⟨en, ei, ek, ew, eo, enw, est, eal⟩⟩ : HE)).length ≤ k + 1 by rw [List.length_set]; have := HSM.out.1; omega) (And.intro (show ∀ x ∈ hs'.set p (⟨.slice p1 en.length q1, .slice p2 ei.length q2, ⟨en, ei, ek, ew, eo, enw, est, eal⟩⟩ : HE), fewE x from fun x hx => by
              rcases List.mem_or_eq_of_mem_set hx with hx | rfl
              · exact HSM.out.2 x hx
              · exact fw) (H10.first (l := [tabP t ⟨(hs'.set p (⟨.slice p1 en.length q1, .slice p2 ei.length q2, ⟨en, ei, ek, ew, eo, enw, est, eal⟩⟩ : HE)).map HE.e, lim most⟩, rowP 48 8 (.slice (some ⟨g, off, none⟩) hs'.length hc') (hs'.set p (⟨.slice p1 en.length q1, .slice p2 ei.length q2, ⟨en, ei, ek, ew, eo, enw, est, eal⟩⟩ : HE)).length ((hs'.set p (⟨.slice p1 en.length q1, .slice p2 ei.length q2, ⟨en, ei, ek, ew, eo, enw, est, eal⟩⟩ : HE)).flatMap heC), heldP (hs'.set p (⟨.slice p1 en.length q1, .slice p2 ei.length q2, ⟨en, ei, ek, ew, eo, enw, est, eal⟩⟩ : HE))])))))
            have Be := HX.out.blk 4 (b := E) (t := 48) (c := #[.slice p1 en.length q1, .slice p2 ei.length q2, .int .i64 ek, .int .i64 ew, .int .i64 eo, .int .i64 enw, .int .u8 est, .bool eal]) rfl
            have e0 : World.cell? w12 ⟨E, 0, none⟩ = some (.slice p1 en.length q1) := Be.cell 0
            have e1 : World.cell? w12 ⟨E, 1, none⟩ = some (.slice p2 ei.length q2) := Be.cell 1
            have e2 : World.cell? w12 ⟨E, 2, none⟩ = some (.int .i64 ek) := Be.cell 2
            have e3 : World.cell? w12 ⟨E, 3, none⟩ = some (.int .i64 ew) := Be.cell 3
            have e4 : World.cell? w12 ⟨E, 4, none⟩ = some (.int .i64 eo) := Be.cell 4
            have e5 : World.cell? w12 ⟨E, 5, none⟩ = some (.int .i64 enw) := Be.cell 5
            have e6 : World.cell? w12 ⟨E, 6, none⟩ = some (.int .u8 est) := Be.cell 6
            have e7 : World.cell? w12 ⟨E, 7, none⟩ = some (.bool eal) := Be.cell 7
            clear Be
            clear H8 H9 H10 ec ef hyp r1 r2 HX HLF HFN hip hd6 HB9 fw
            go_wp2_with fail
            go_meet
            exact ⟨_, HZ⟩
        | false =>
          have HZ : Hid (hs'.length ≤ k + 1 ∧ (∀ x ∈ hs', fewE x) ∧ es' = hs'.map HE.e) := by
            rcases HLF.out with ⟨h1, h2, h3, h4⟩ | ⟨h1, rfl, _, _, _, _, h5, h6⟩
            · exact Lib.hid ⟨by have := HSM.out.1; omega, h4, h2⟩
            · refine Lib.hid ⟨by have := HSM.out.1; omega, HSM.out.2, ?_⟩
              rcases HFN.out with ⟨h, _⟩ | ⟨q, h, _, _⟩
              · exact h6 h
              · have := HB9.out.2 ⟨by omega, h1⟩
                simp at this
          have HW : Hid (hs'.length ≤ k + 1 ∧ (∀ x ∈ hs', fewE x) ∧ Heap w w12 ([tabP t ⟨hs'.map HE.e, lim most⟩, rowP 48 8 (.slice ha' hs'.length hc') hs'.length (hs'.flatMap heC), heldP hs'])) := Lib.hid ⟨HZ.out.1, HZ.out.2.1, by rw [← HZ.out.2.2]; exact HX.out.first (l := [tabP t ⟨es', lim most⟩, rowP 48 8 (.slice ha' hs'.length hc') hs'.length (hs'.flatMap heC), heldP hs'])⟩
          clear HZ HX HLF HFN HB9
          go_wp2_with fail
          go_meet
          exact ⟨hs', Lib.hid ⟨rfl, HW.out⟩⟩
      case rest =>
      obtain ⟨hs2, HZ⟩ := hcut
      clear HX HLF HFN HB9 HSM HSH RN HRX HQD
      rename World => w13
      obtain ⟨hl2, hl3, hf2, H13⟩ := HZ.out
      have CL := RtLen_h H13 0 rfl
      rw [show ((⟨hs2.map HE.e, lim most⟩ : Rt).es.length : Int) = (hs2.length : Int) by simp] at CL
      have CL := Lib.hid CL
      clear HZ
      rw [← hl2] at H13
      have HQ := Lib.hid (And.intro hl3 (And.intro hf2 H13))
      rw [← hl2]
      clear hl2 hl3 hf2 H13
      go_wp2_with fail
      refine CL.out.mono ?_
      rintro e w' ⟨rfl, hw⟩
      have hw := hw.symm
      subst hw
      clear CL
      go_wp2_with fail
      exact ⟨⟨k + 1, hs2, ha', hc', by go_num, by omega, rfl, HQ⟩, by simp [intOf]; omega⟩
    · rw [decide_eq_false hsh] at CSh
      have CSh := Lib.hid CSh
      clear hsh
      go_wp2_with fail
      refine CSh.out.mono ?_
      rintro e w4 ⟨rfl, F4⟩
      have HB := Lib.hid (HH.out.go F4).below
      clear CSh F4 HH
      go_wp2_with fail
      go_ret
      exact ⟨rfl, HB.out⟩
  · have HB := Lib.hid HG.out.2.2.below
    have CL := Lib.hid (RtLen_h HG.out.2.2 0 rfl)
    clear HG
    go_wp2_with fail
    refine CL.out.mono ?_
    rintro e w' ⟨rfl, hw⟩
    have hw := hw.symm
    subst hw
    clear CL
    go_wp2_with fail
    go_ret
    exact ⟨by simp, HB.out⟩
end Go.Proofs.Ytdikkndphimjaaa
