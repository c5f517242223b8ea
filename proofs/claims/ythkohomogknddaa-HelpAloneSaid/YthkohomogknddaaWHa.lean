/- HelpAlone. No condition. -/
import Derived.Test.YthkohomogknddaaHal
import Derived.Test.YthkohomogknddaaTcs
import Derived.Deep.DeepCutAuto
import Derived.Deep.CutRange
namespace Go.Proofs.Ythkohomogknddaa
open Go Go.RowKit
set_option linter.unusedVariables false
set_option linter.unusedSimpArgs false
set_option maxRecDepth 100000
theorem tmod4 (y : Int) : -3 ≤ y.tmod 4 ∧ y.tmod 4 ≤ 3 := by
  rcases (by omega : 0 ≤ y ∨ y < 0) with h | h
  · rw [Int.tmod_eq_emod_of_nonneg h]; omega
  · have : y.tmod 4 = -((-y).tmod 4) := by rw [Int.neg_tmod]; omega
    rw [this, Int.tmod_eq_emod_of_nonneg (by omega)]; omega
theorem name_w {P : Program} {md : Region.Mode} {ops : Array Oper} {Q : Exit → Act → World → Prop} {S : World → Prop} {ks : List Nat} {n : Nat} {l : Array Bool} {a : Act} {w : World}
    (h : ∀ z : World, z = w → AnyK P md ops Q S ks n l a z) : AnyK P md ops Q S ks n l a w := h w rfl
theorem wrap_f {f : Int} (h : -3 ≤ f ∧ f ≤ 3) : IntKind.i64.wrap f = f := by rw [IntKind.wrap_i64]; omega
theorem Heap.tailP {w0 w : World} {p : Piece} {l : List Piece} (h : Heap w0 w (p :: l)) : Heap w0 w l := Heap.mid (l := []) (m := [p]) (r := l) h
theorem Heap.swapF {w0 w : World} {B C : List Piece} (h : Heap w0 w (B ++ C)) : Heap w0 w (C ++ B) := Heap.swapEnd (A := []) (B := B) (C := C) h
theorem Heap.allocF {w0 w : World} {l : List Piece} (h : Heap w0 w l) (t : TypeId) (c : Array Value) : Heap w0 (w.alloc (.cells c t)) (blkP w.heap.size t c :: l) := Heap.swapF (h.alloc t c)
def nowI (xs : List Int) (i : Nat) : Int := (xs.getD i 0).tmod 4
def L1 (xs : List Int) (j : Nat) : List Nk := (List.range 5).map fun i => ⟨if i < j then nowI xs i else 0, false, 200 + 10 * (i : Int), 201 + 10 * (i : Int)⟩
theorem L1_zero (xs : List Int) : L1 xs 0 = fresh 5 := by
  unfold L1 fresh
  apply List.map_congr_left
  intro i _
  rw [if_neg (by omega)]
theorem L1_len (xs : List Int) (j : Nat) : (L1 xs j).length = 5 := by simp [L1]
theorem L1_at {xs : List Int} {j : Nat} (h : j < 5) : (L1 xs j)[j]? = some ⟨0, false, 200 + 10 * (j : Int), 201 + 10 * (j : Int)⟩ := by simp [L1, h]
theorem L1_getD {xs : List Int} {j : Nat} (h : j < 5) : (L1 xs j).getD j nk0 = ⟨0, false, 200 + 10 * (j : Int), 201 + 10 * (j : Int)⟩ := by rw [List.getD_eq_getElem?_getD, L1_at h]; rfl
theorem L1_next {xs : List Int} {j : Nat} {u : Int} (h : j < 5) (hu : (xs.getD j 0).tmod 4 = u) : (L1 xs j).set j { (L1 xs j).getD j nk0 with inf := u } = L1 xs (j + 1) := by
  rw [L1_getD h]
  apply List.ext_getElem?
  intro i
  rw [List.getElem?_set, L1_len]
  unfold L1
  by_cases hi : j = i
  · subst hi
    rw [if_pos rfl, if_pos h]
    simp [h, nowI, ← hu]
  · rw [if_neg hi]
    simp only [List.getElem?_map]
    cases hr : (List.range 5)[i]? with
    | none => rfl
    | some r =>
      have hri : r = i := by
        obtain ⟨h1, h2⟩ := List.getElem?_eq_some_iff.1 hr
        simpa using h2.symm
      subst hri
      have : (r < j + 1) ↔ (r < j) := ⟨fun x => by omega, fun x => by omega⟩
      simp only [Option.map_some, this]
theorem L1_done {xs : List Int} {j : Nat} (h : j < 5) : ((L1 xs (j + 1)).getD j nk0).inf = nowI xs j := by
  simp [List.getD_eq_getElem?_getD, L1, h]
theorem L1_ab {xs : List Int} {j i : Nat} (h : i < 5) : ((L1 xs j).getD i nk0).a = 200 + 10 * (i : Int) ∧ ((L1 xs j).getD i nk0).b = 201 + 10 * (i : Int) ∧ ((L1 xs j).getD i nk0).mrk = false := by
  simp [List.getD_eq_getElem?_getD, L1, h]
def onL (ts : List Tc) (j : Nat) : List Nat := (ts.take j).map fun t => (t.d % 5).toNat
def fsL (ts : List Tc) (j : Nat) : List Int := (ts.take j).map fun t => t.k.tmod 4
theorem onL_next {ts : List Tc} {j : Nat} {d kk : Int} {i : Nat} (h : ts[j]? = some ⟨d, kk⟩) (hi : d % 5 = (i : Int)) : onL ts (j + 1) = onL ts j ++ [i] := by
  unfold onL
  rw [List.take_add_one, h]
  simp [hi]
theorem fsL_next {ts : List Tc} {j : Nat} {d kk f : Int} (h : ts[j]? = some ⟨d, kk⟩) (hf : kk.tmod 4 = f) : fsL ts (j + 1) = fsL ts j ++ [f] := by
  unfold fsL
  rw [List.take_add_one, h]
  simp [hf]
theorem al2_qs {z : World} {rb bt j c1 c2 cp i : Nat} {a1 a2 : Option Addr} {u2 u3 u4 u5 : Value} {g9 : Addr} {d kk : Int} (hi : i < 5) (B1 : Blk z rb 78 #[.slice a1 j c1, .slice a2 j c2, u2, u3, u4, u5]) (R : QRow z 29 1 (.slice (some g9) 5 cp) 5 (intC (tolds 5))) (B2 : Blk z bt 94 #[.int .u8 d, .int .i8 kk]) :
    z.cell? ⟨rb, 0, none⟩ = some (.slice a1 j c1) ∧ z.cell? ⟨rb, 1, none⟩ = some (.slice a2 j c2) ∧ z.cell? (g9.add i) = some (.int .i64 (told i)) ∧ z.cell? ⟨bt, 1, none⟩ = some (.int .i8 kk) := by
  obtain ⟨g8, ee, _, hat⟩ := R.rdv.at (by omega)
  have ee : g9 = g8 := by simpa using ee
  subst ee
  exact ⟨B1.cell 0, B1.cell 1, hat i _ (tolds_get hi), B2.cell 1⟩
theorem onL_lt {ts : List Tc} {j i : Nat} (h : ∀ x ∈ ts, 0 ≤ x.d) (hi : i ∈ onL ts j) : i < 5 := by
  obtain ⟨x, hx, rfl⟩ := List.mem_map.1 hi
  have := h x (List.mem_of_mem_take hx)
  omega
theorem al2_next {w z : World} {c : Wc} {L0 : List Nk} {a0 : Option Addr} {cp rb bN kp j i : Nat} {wy f d kk : Int} {ts : List Tc} {a3 a4 ao2 : Option Addr} {c3 c4 co2 : Nat} (hyk : ts[j]? = some ⟨d, kk⟩) (hi : d % 5 = (i : Int)) (hf : kk.tmod 4 = f)
    (h : Heap w z ([rowP 3 1 (.slice ao2 (j + 1) co2) (j + 1) (intC ((onL ts j).map fun (i : Nat) => (i : Int)) ++ [.int .i64 (i : Int)]), rowP 29 1 (.slice a3 (j + 1) c3) (j + 1) (intC ((onL ts j).map told) ++ [.int .i64 (told i)]), rowP 2 1 (.slice a4 (j + 1) c4) (j + 1) (intC (fsL ts j) ++ [.int .i64 f]), blkP rb 78 #[.slice a3 (j + 1) c3, .slice a4 (j + 1) c4, .int .i64 (kp : Int), .int .i64 wy, .int .i64 0, .int .i64 99], blkP bN 2 (nowA L0)] ++ (wdL c { ndW 1 5 with ar := nkS (L0) } ++ [rowP 29 1 (.slice a0 5 cp) 5 (intC (tolds 5))]))) : Hid (∃ a1 c1 a2 c2, Heap w z ([rowP 3 1 (.slice ao2 (j + 1) co2) (j + 1) (intC ((onL ts (j + 1)).map fun (i : Nat) => (i : Int))), rowP 29 1 (.slice a1 (j + 1) c1) (j + 1) (intC ((onL ts (j + 1)).map told)), rowP 2 1 (.slice a2 (j + 1) c2) (j + 1) (intC (fsL ts (j + 1))), blkP rb 78 #[.slice a1 (j + 1) c1, .slice a2 (j + 1) c2, .int .i64 (kp : Int), .int .i64 wy, .int .i64 0, .int .i64 99], blkP bN 2 (nowA L0)] ++ (wdL c { ndW 1 5 with ar := nkS (L0) } ++ [rowP 29 1 (.slice a0 5 cp) 5 (intC (tolds 5))]))) := by
  refine Lib.hid ⟨a3, c3, a4, c4, ?_⟩
  rw [onL_next hyk hi, fsL_next hyk hf]
  simpa [intC] using h
theorem nowA_cell {w : World} {b : Nat} {t : TypeId} {L : List Nk} (B : Blk w b t (nowA L)) {i : Nat} (h : i < L.length) : w.cell? ⟨b, i, none⟩ = some (.int .i64 (L.getD i nk0).inf) := by
  rw [B.cell i]
  simp [nowA, h]
theorem mrkA_cell {w : World} {b : Nat} {t : TypeId} {L : List Nk} (B : Blk w b t (mrkA L)) {i : Nat} (h : i < L.length) : w.cell? ⟨b, i, none⟩ = some (.bool (L.getD i nk0).mrk) := by
  rw [B.cell i]
  simp [mrkA, h]
theorem nowA_set (L : List Nk) (i : Nat) (u : Int) : (nowA L).setIfInBounds i (.int .i64 u) = nowA (L.set i { L.getD i nk0 with inf := u }) := by
  simp [nowA, List.map_set]
theorem mrkA_set (L : List Nk) (i : Nat) (u : Bool) : (mrkA L).setIfInBounds i (.bool u) = mrkA (L.set i { L.getD i nk0 with mrk := u }) := by
  simp [mrkA, List.map_set]
theorem mrk_false {L : List Nk} (hl : L.length = 5) (h : ∀ i, i < 5 → (L.getD i nk0).mrk = false) : #[Value.bool false, Value.bool false, Value.bool false, Value.bool false, Value.bool false] = mrkA L := by
  match L, hl with
  | [a, b, c, d, e], _ =>
    have h0 := h 0 (by omega)
    have h1 := h 1 (by omega)
    have h2 := h 2 (by omega)
    have h3 := h 3 (by omega)
    have h4 := h 4 (by omega)
    simp at h0 h1 h2 h3 h4
    simp [mrkA, h0, h1, h2, h3, h4]
theorem hI_cons (al : Bool) (i : Nat) (f : Int) (l : List (Nat × Int)) (L : List Nk) : hI al ((i, f) :: l) L = if (L.getD i nk0).inf = f then ((hI al l (L.set i { L.getD i nk0 with inf := 1 })).1 + 1, (hI al l (L.set i { L.getD i nk0 with inf := 1 })).2) else if (L.getD i nk0).inf = 1 then ((hI al l L).1 + 2, (hI al l L).2) else (if al = true then 3 else 4, true, L) := rfl
theorem zip_dropA {on : List Nat} {fs : List Int} {k i : Nat} {f : Int} (hi : on[k]? = some i) (hf : fs[k]? = some f) : (on.zip fs).drop k = (i, f) :: (on.zip fs).drop (k + 1) := by
  have h : (on.zip fs)[k]? = some (i, f) := by rw [List.getElem?_zip_eq_some]; exact ⟨hi, hf⟩
  obtain ⟨h1, h2⟩ := List.getElem?_eq_some_iff.1 h
  rw [List.drop_eq_getElem_cons h1, h2]
theorem hM_snoc : ∀ (l : List Nat) (i : Nat) (L : List Nk), hM (l ++ [i]) L = (hM l L).set i { (hM l L).getD i nk0 with mrk := true }
  | [], _, _ => rfl
  | j :: l, i, L => hM_snoc l i (L.set j { L.getD j nk0 with mrk := true })
theorem drop_ge {on : List Nat} {k kp i : Nat} (hi : on[k]? = some i) (h : kp ≤ k) : (on.take (k + 1)).drop kp = (on.take k).drop kp ++ [i] := by
  rw [List.take_add_one, hi, List.drop_append_of_le_length (by simp; have := (List.getElem?_eq_some_iff.1 hi).1; omega)]
  rfl
theorem drop_lt {on : List Nat} {k kp : Nat} (h : k < kp) : (on.take (k + 1)).drop kp = (on.take k).drop kp := by
  rw [List.drop_eq_nil_of_le (by simp; omega), List.drop_eq_nil_of_le (by simp; omega)]
theorem hI_pos {al : Bool} : ∀ (l : List (Nat × Int)) (L : List Nk), (hI al l L).2.1 = true → 1 ≤ (hI al l L).1
  | [], L, h => by simp [hI] at h
  | (i, f) :: l, L, h => by
    rw [hI_cons] at h ⊢
    split
    · show 1 ≤ _ + 1; omega
    · split
      · show 1 ≤ _ + 2; omega
      · cases al <;> simp
theorem hRes_pos (al : Bool) (on : List Nat) (fs : List Int) (kp : Nat) (wy ov : Int) (L : List Nk) : 1 ≤ (hRes al on fs kp wy ov L).t := by
  unfold hRes
  by_cases h : (hI al (on.zip fs) L).2.1 = true
  · rw [if_pos h]; exact hI_pos _ _ h
  · rw [if_neg h]; show 1 ≤ _ + 2 + _ + _; omega
theorem hEndL_cons {on : List Nat} {kp : Nat} {wy ov : Int} {L : List Nk} {i : Nat} (h : on[0]? = some i) : hEndL on kp wy ov L = hF wy ov i (hM (on.drop kp) L) := by
  cases on with
  | nil => simp at h
  | cons a l => simp at h; subst h; rfl
theorem hF_ab {way old : Int} {i : Nat} {L : List Nk} (h : i < L.length) : ((hF way old i L).getD i nk0).a = (if way = 0 ∧ (L.getD i nk0).a = old then 99 else (L.getD i nk0).a) ∧ ((hF way old i L).getD i nk0).b = (if way = 0 ∧ (L.getD i nk0).a = old then (L.getD i nk0).b else if way = 1 ∧ (L.getD i nk0).b = old then 99 else (L.getD i nk0).b) := by
  have hs : ∀ y : Nk, (L.set i y).getD i nk0 = y := fun y => by simp [List.getD_eq_getElem?_getD, h]
  unfold hF
  by_cases h1 : way = 0 ∧ (L.getD i nk0).a = old
  · simp only [if_pos h1, hs, and_self]
  · by_cases h2 : way = 1 ∧ (L.getD i nk0).b = old
    · simp only [if_neg h1, if_pos h2, hs, and_self]
    · simp only [if_neg h1, if_neg h2, and_self]
set_option maxHeartbeats 800000000 in
theorem HelpAlone_walk (v0 : Value) (xs : List Int) (v1 : Value) (ts : List Tc) (keep0 : Int) (hkeep : 0 ≤ keep0 ∧ keep0 ≤ 255) (way0 : Int) (hway : 0 ≤ way0 ∧ way0 ≤ 255) (old0 : Int) (hold : 0 ≤ old0 ∧ old0 ≤ 255) (all : Bool) (w : World) (R0 : RdV w v0 xs.length 1 (xs.map (Value.int .i8))) (hy0 : ∀ n ∈ xs, (Lit.int .i8 n).wf = true) (R1 : RdV w v1 ts.length 2 (tcC ts)) (hy1 : ∀ x ∈ ts, x.ok) :
    Calls Try.prog 13 #[v0, v1, .int .u8 keep0, .int .u8 way0, .int .u8 old0, .bool all] w fun e w' => e = .returned (.bool true) ∧ Below w.heap.size w w' := by
  have hshort := R0.short
  have hshort1 := R1.short
  obtain ⟨pa, pc, rfl⟩ := R0.len
  obtain ⟨qa, qc, rfl⟩ := R1.len
  have HR0 := Lib.hid R0
  have HR1 := Lib.hid R1
  have HY0 : Hid (∀ n ∈ xs, -128 ≤ n ∧ n ≤ 127) := Lib.hid (fun n hn => bounds_i8 (hy0 n hn))
  have HY1 := Lib.hid hy1
  clear R0 hy0 R1 hy1
  by_cases hl1 : 6 < ts.length
  · go_enter Try.func13, Try.ntmps13
    go_wp2_with fail
    refine (Awake9 w).mono ?_
    rintro e w1 ⟨rfl, F1⟩
    have B1 := Lib.hid ((Heap.start w).go F1).below
    clear F1
    go_wp2_with fail
    go_ret
    exact ⟨rfl, B1.out⟩
  · by_cases hl0 : 5 < xs.length
    · go_enter Try.func13, Try.ntmps13
      go_wp2_with fail
      refine (Awake9 w).mono ?_
      rintro e w1 ⟨rfl, F1⟩
      have B1 := Lib.hid ((Heap.start w).go F1).below
      clear F1
      go_wp2_with fail
      go_ret
      exact ⟨rfl, B1.out⟩
    · go_enter Try.func13, Try.ntmps13
      go_wp2_with fail
      refine (Awake9 w).mono ?_
      rintro e w1 ⟨rfl, F1⟩
      have CN := Lib.hid (Nodes_h ((Heap.start w).go F1) 1 5 (by omega) (by omega))
      clear F1
      go_wp2_with fail
      refine CN.out.mono ?_
      rintro e w2 ⟨c, a0, cp, _, rfl, H2⟩
      clear CN
      have hmk : ∀ w, (Instr.makeSlice 35 (.int .i64 5) (.int .i64 5)).run Try.prog w = .ok (.slice (some ⟨w.heap.size, 0, none⟩) 5 5) (w.alloc (.cells #[.int .i64 0, .int .i64 0, .int .i64 0, .int .i64 0, .int .i64 0] 2)) := fun _ => by kernel_rfl
      have H3 := H2.allocF 2 #[.int .i64 0, .int .i64 0, .int .i64 0, .int .i64 0, .int .i64 0]
      obtain ⟨bN, hbN⟩ : ∃ r, w2.heap.size = r := ⟨_, rfl⟩
      obtain ⟨w3, hw3⟩ : ∃ z, w2.alloc (.cells #[.int .i64 0, .int .i64 0, .int .i64 0, .int .i64 0, .int .i64 0] 2) = z := ⟨_, rfl⟩
      rw [hbN, hw3] at H3
      have HH : Hid (Heap w w3 ([blkP bN 2 (nowA (L1 xs 0))] ++ (wdL c { ndW 1 5 with ar := nkS (L1 xs 0) } ++ [rowP 29 1 (.slice a0 5 cp) 5 (intC (tolds 5))]))) := Lib.hid (by rw [L1_zero]; exact H3)
      have HWW := Lib.hid (And.intro hbN hw3)
      clear H2 H3 hbN hw3
      go_wp2_with fail
      rw [HWW.out.1, HWW.out.2]
      clear HWW hmk
      go_loopw [58] (fun i wr => ∃ j : Nat, i = .int .i64 (j : Nat) ∧ j ≤ xs.length ∧ Hid (Heap w wr ([blkP bN 2 (nowA (L1 xs j))] ++ (wdL c { ndW 1 5 with ar := nkS (L1 xs j) } ++ [rowP 29 1 (.slice a0 5 cp) 5 (intC (tolds 5))])))) (fun i _ => xs.length - (intOf i).toNat)
      case atStart => exact ⟨0, rfl, Nat.zero_le _, HH⟩
      case round =>
      clear HH
      obtain ⟨j, rfl, hj, HH⟩ := hrel
      by_cases hlt : j < xs.length
      · obtain ⟨a1, ea, hc1, hat1⟩ := (HR0.out.fr HH.out.fr (fun _ _ _ x => x)).at (by omega)
        have ea : pa = some a1 := by simpa using ea
        obtain ⟨y, hyk⟩ : ∃ y, xs[j]? = some y := ⟨_, List.getElem?_eq_getElem hlt⟩
        have y1 := hat1 j (.int .i8 y) (by simp [hyk])
        obtain ⟨yl, yh⟩ := HY0.out y (List.mem_of_getElem? hyk)
        obtain ⟨g9, ee, hcc, hat⟩ := (HH.out.row 5 (t := 29) (sz := 1) (n := 5) (v := .slice a0 5 cp) (us := intC (tolds 5)) rfl).rdv.at (by omega)
        have ee : a0 = some g9 := by simpa using ee
        subst ea ee
        have hj5 : j < 5 := by omega
        have hji : (j : Int) < 5 := by omega
        have B := HH.out.blk 0 (b := bN) (t := 2) (c := nowA (L1 xs j)) rfl
        have e1 := nowA_cell B (i := j) (by rw [L1_len]; omega)
        have f1 := B.froz j
        obtain ⟨u, hu⟩ : ∃ u, y.tmod 4 = u := ⟨_, rfl⟩
        have hub : -3 ≤ u ∧ u ≤ 3 := by rw [← hu]; exact tmod4 y
        have H1 := HH.out.setCell 0 rfl j (.int .i64 u)
        rw [nowA_set, L1_next hj5 (by rw [List.getD_eq_getElem?_getD, hyk]; exact hu)] at H1
        have HS1 := Lib.hid H1
        have HG : Hid ((L1 xs j)[j]? = some ⟨0, false, 200 + 10 * (j : Int), 201 + 10 * (j : Int)⟩) := Lib.hid (L1_at hj5)
        have HL : Hid ((L1 xs j).set j ⟨u, false, 200 + 10 * (j : Int), 201 + 10 * (j : Int)⟩ = L1 xs (j + 1)) := Lib.hid (by have := L1_next (xs := xs) (u := u) hj5 (by rw [List.getD_eq_getElem?_getD, hyk]; exact hu); rw [← this, L1_getD hj5])
        have HGR := Lib.hid (hat j _ (tolds_get hj5))
        clear hat1 hat hcc hc1 B H1
        have HU : Hid (((L1 xs (j + 1)).getD j nk0).inf = u) := Lib.hid (by rw [L1_done hj5]; unfold nowI; rw [List.getD_eq_getElem?_getD, hyk]; exact hu)
        as_aux_lemma =>
          go_upto_region 11 with fail
          clear e1 f1 y1 hyk
          obtain ⟨x1, hx1⟩ : ∃ z, wr.setCell ⟨bN, j, none⟩ (.int .i64 u) = z := ⟨_, rfl⟩
          rw [hx1] at HS1 ⊢
          clear hx1 hu HH
          have HZ := HS1.out.drew
          obtain ⟨g8, ee, hcc, hat⟩ := (HZ.row 5 (t := 29) (sz := 1) (n := 5) (v := .slice (some g9) 5 cp) (us := intC (tolds 5)) rfl).rdv.at (by omega)
          have ee : g9 = g8 := by simpa using ee
          subst ee
          have y1 := hat j _ (tolds_get hj5)
          have e1 := nowA_cell (HZ.blk 0 (b := bN) (t := 2) (c := nowA (L1 xs (j + 1))) rfl) (i := j) (by rw [L1_len]; omega)
          rw [HU.out] at e1
          have q0 : World.cell? x1.drew ⟨c.wb, 0, none⟩ = some (.pointer (some ⟨c.ab, 0, none⟩)) ∧ World.cell? x1.drew (g9.add j) = some (.int .i64 (told j)) ∧ World.cell? x1.drew ⟨bN, j, none⟩ = some (.int .i64 u) := ⟨(wdL_cells HZ.tailP).1, y1, e1⟩
          have C := SwapInfo_h HZ 2 rfl ((nkS_ok (l := L1 xs j) (N := 10) (by rw [L1_len]; omega) (Nat.le_refl _)).ok (by omega)) (told j) 0 u
          rw [show ({ ndW 1 5 with ar := nkS (L1 xs j) } : Wd).ar = nkS (L1 xs j) from rfl, nk_swapInfo HG.out (by rw [L1_len]; omega), if_pos rfl, HL.out] at C
          have C := Lib.hid C
          clear HZ hat y1 e1 HS1 HL HG HU
          refine wp_region_noPanic ?_
          refine AnyK.start (ks := [12]) (S := fun w' => w'.cell? ⟨c.wb, 0, none⟩ = some (.pointer (some ⟨c.ab, 0, none⟩)) ∧ w'.cell? (g9.add j) = some (.int .i64 (told j)) ∧ w'.cell? ⟨bN, j, none⟩ = some (.int .i64 u)) (by kernel_rfl) (by exact q0) (fun _ => ?_)
          refine AnyK.takeB (i := 0) (v := ?_) rfl (by kernel_rfl) (by kernel_rfl) (by kernel_rfl) (by kernel_rfl) (fun _ _ _ h => h) (Or.inl ⟨by rfl, ?_⟩) (by exact q0) ?_
          rotate_left
          focus
            intro w9 hSw
            try dsimp only at hSw
            go_simp
            try with_reducible rfl
          try simp only [Act.put, List.getElem_toArray, List.getElem_cons_zero, List.getElem_cons_succ, List.setIfInBounds_toArray, List.set_cons_zero, List.set_cons_succ]
          refine AnyK.takeB (i := 1) (v := ?_) rfl (by kernel_rfl) (by kernel_rfl) (by kernel_rfl) (by kernel_rfl) (fun _ _ _ h => h) (Or.inl ⟨by rfl, ?_⟩) (by exact q0) ?_
          rotate_left
          focus
            intro w9 hSw
            try dsimp only at hSw
            go_simp
            try with_reducible rfl
          try simp only [Act.put, List.getElem_toArray, List.getElem_cons_zero, List.getElem_cons_succ, List.setIfInBounds_toArray, List.set_cons_zero, List.set_cons_succ]
          refine AnyK.takeB (i := 2) (v := ?_) rfl (by kernel_rfl) (by kernel_rfl) (by kernel_rfl) (by kernel_rfl) (fun _ _ _ h => h) (Or.inl ⟨by rfl, ?_⟩) (by exact q0) ?_
          rotate_left
          focus
            intro w9 hSw
            try dsimp only at hSw
            go_simp
            try with_reducible rfl
          try simp only [Act.put, List.getElem_toArray, List.getElem_cons_zero, List.getElem_cons_succ, List.setIfInBounds_toArray, List.set_cons_zero, List.set_cons_succ]
          refine AnyK.takeB (i := 3) (v := ?_) rfl (by kernel_rfl) (by kernel_rfl) (by kernel_rfl) (by kernel_rfl) (fun _ _ _ h => h) (Or.inl ⟨by rfl, ?_⟩) (by exact q0) ?_
          rotate_left
          focus
            intro w9 hSw
            try dsimp only at hSw
            go_simp
            try with_reducible rfl
          try simp only [Act.put, List.getElem_toArray, List.getElem_cons_zero, List.getElem_cons_succ, List.setIfInBounds_toArray, List.set_cons_zero, List.set_cons_succ]
          refine AnyK.takeB (i := 4) (v := ?_) rfl (by kernel_rfl) (by kernel_rfl) (by kernel_rfl) (by kernel_rfl) (fun _ _ _ h => h) (Or.inl ⟨by rfl, ?_⟩) (by exact q0) ?_
          rotate_left
          focus
            intro w9 hSw
            try dsimp only at hSw
            go_simp
            try with_reducible rfl
          try simp only [Act.put, List.getElem_toArray, List.getElem_cons_zero, List.getElem_cons_succ, List.setIfInBounds_toArray, List.set_cons_zero, List.set_cons_succ]
          refine AnyK.takeB (i := 5) (v := ?_) rfl (by kernel_rfl) (by kernel_rfl) (by kernel_rfl) (by kernel_rfl) (fun _ _ _ h => h) (Or.inl ⟨by rfl, ?_⟩) (by exact q0) ?_
          rotate_left
          focus
            intro w9 hSw
            try dsimp only at hSw
            go_simp
            try with_reducible rfl
          try simp only [Act.put, List.getElem_toArray, List.getElem_cons_zero, List.getElem_cons_succ, List.setIfInBounds_toArray, List.set_cons_zero, List.set_cons_succ]
          refine AnyK.takeB (i := 6) (v := ?_) rfl (by kernel_rfl) (by kernel_rfl) (by kernel_rfl) (by kernel_rfl) (fun _ _ _ h => h) (Or.inl ⟨by rfl, ?_⟩) (by exact q0) ?_
          rotate_left
          focus
            intro w9 hSw
            try dsimp only at hSw
            go_simp
            try with_reducible rfl
          try simp only [Act.put, List.getElem_toArray, List.getElem_cons_zero, List.getElem_cons_succ, List.setIfInBounds_toArray, List.set_cons_zero, List.set_cons_succ]
          refine AnyK.takeB (i := 7) (v := ?_) rfl (by kernel_rfl) (by kernel_rfl) (by kernel_rfl) (by kernel_rfl) (fun _ _ _ h => h) (Or.inl ⟨by rfl, ?_⟩) (by exact q0) ?_
          rotate_left
          focus
            intro w9 hSw
            try dsimp only at hSw
            go_simp
            try with_reducible rfl
          try simp only [Act.put, List.getElem_toArray, List.getElem_cons_zero, List.getElem_cons_succ, List.setIfInBounds_toArray, List.set_cons_zero, List.set_cons_succ]
          refine AnyK.takeB (i := 8) (v := ?_) rfl (by kernel_rfl) (by kernel_rfl) (by kernel_rfl) (by kernel_rfl) (fun _ _ _ h => h) (Or.inl ⟨by rfl, ?_⟩) (by exact q0) ?_
          rotate_left
          focus
            intro w9 hSw
            try dsimp only at hSw
            go_simp
            try with_reducible rfl
          try simp only [Act.put, List.getElem_toArray, List.getElem_cons_zero, List.getElem_cons_succ, List.setIfInBounds_toArray, List.set_cons_zero, List.set_cons_succ]
          refine AnyK.takeB (i := 9) (v := ?_) rfl (by kernel_rfl) (by kernel_rfl) (by kernel_rfl) (by kernel_rfl) (fun _ _ _ h => h) (Or.inl ⟨by rfl, ?_⟩) (by exact q0) ?_
          rotate_left
          focus
            intro w9 hSw
            try dsimp only at hSw
            go_simp
            try with_reducible rfl
          try simp only [Act.put, List.getElem_toArray, List.getElem_cons_zero, List.getElem_cons_succ, List.setIfInBounds_toArray, List.set_cons_zero, List.set_cons_succ]
          refine AnyK.takeB (i := 10) (v := ?_) rfl (by kernel_rfl) (by kernel_rfl) (by kernel_rfl) (by kernel_rfl) (fun _ _ _ h => h) (Or.inl ⟨by rfl, ?_⟩) (by exact q0) ?_
          rotate_left
          focus
            intro w9 hSw
            try dsimp only at hSw
            go_simp
            try with_reducible rfl
          try simp only [Act.put, List.getElem_toArray, List.getElem_cons_zero, List.getElem_cons_succ, List.setIfInBounds_toArray, List.set_cons_zero, List.set_cons_succ]
          refine AnyK.takeB (i := 11) (v := ?_) rfl (by kernel_rfl) (by kernel_rfl) (by kernel_rfl) (by kernel_rfl) (fun _ _ _ h => h) (Or.inl ⟨by rfl, ?_⟩) (by exact q0) ?_
          rotate_left
          focus
            intro w9 hSw
            try dsimp only at hSw
            go_simp
            try with_reducible rfl
          try simp only [Act.put, List.getElem_toArray, List.getElem_cons_zero, List.getElem_cons_succ, List.setIfInBounds_toArray, List.set_cons_zero, List.set_cons_succ]
          refine AnyK.one (i := 12) (by kernel_rfl) rfl (fun K9 hK9 => ?_)
          go_simp
          refine C.out.mono ?_
          rintro e y9 ⟨rfl, H9⟩
          refine hK9.out _ _ (fun hx => absurd (by decide) hx) ?_
          clear hK9 K9
          try simp only [Act.put, List.getElem_toArray, List.getElem_cons_zero, List.getElem_cons_succ, List.setIfInBounds_toArray, List.set_cons_zero, List.set_cons_succ]
          refine AnyK.done (by kernel_rfl) ?_ _
          refine NoPanic.normal ?_
          have HX := Lib.hid H9
          clear H9
          go_wp2_with fail
          exact ⟨⟨j + 1, by go_num, by omega, HX⟩, by simp [intOf]; omega⟩
      · have hjx : j = xs.length := by omega
        have HL0 : Hid ((L1 xs j).length = 5 ∧ ∀ i, i < 5 → ((L1 xs j).getD i nk0).a = 200 + 10 * (i : Int) ∧ ((L1 xs j).getD i nk0).b = 201 + 10 * (i : Int) ∧ ((L1 xs j).getD i nk0).mrk = false) := Lib.hid ⟨L1_len xs j, fun i hi => L1_ab hi⟩
        subst hjx
        rename World => w4
        obtain ⟨kp, hkp⟩ : ∃ k : Nat, keep0 % 8 = (k : Int) := ⟨(keep0 % 8).toNat, by omega⟩
        obtain ⟨wy, hwy⟩ : ∃ k : Int, way0 % 4 - 1 = k := ⟨_, rfl⟩
        have hwb : -1 ≤ wy ∧ wy ≤ 2 := by omega
        have hkb : kp ≤ 7 := by omega
        obtain ⟨L0, hLL⟩ : ∃ L, L1 xs xs.length = L := ⟨_, rfl⟩
        rw [hLL] at HH HL0
        clear hLL
        have H5 := HH.out.allocF 78 #[.slice none 0 0, .slice none 0 0, .int .i64 (kp : Int), .int .i64 wy, .int .i64 0, .int .i64 99]
        obtain ⟨rb, hrb⟩ : ∃ r, w4.heap.size = r := ⟨_, rfl⟩
        obtain ⟨w5, hw5⟩ : ∃ z, w4.alloc (.cells #[.slice none 0 0, .slice none 0 0, .int .i64 (kp : Int), .int .i64 wy, .int .i64 0, .int .i64 99] 78) = z := ⟨_, rfl⟩
        rw [hrb, hw5] at H5
        have HH : Hid (∃ a1 c1 a2 c2, Heap w w5 ([rowP 3 1 (.slice none 0 0) 0 (intC ((onL ts 0).map fun (i : Nat) => (i : Int))), rowP 29 1 (.slice a1 0 c1) 0 (intC ((onL ts 0).map told)), rowP 2 1 (.slice a2 0 c2) 0 (intC (fsL ts 0)), blkP rb 78 #[.slice a1 0 c1, .slice a2 0 c2, .int .i64 (kp : Int), .int .i64 wy, .int .i64 0, .int .i64 99], blkP bN 2 (nowA L0)] ++ (wdL c { ndW 1 5 with ar := nkS (L0) } ++ [rowP 29 1 (.slice a0 5 cp) 5 (intC (tolds 5))]))) := Lib.hid ⟨none, 0, none, 0, ((((H5.rowNil 2 1).swapF.rowNil 29 1).swapF.rowNil 3 1).swapF)⟩
        have HWW := Lib.hid (And.intro hrb hw5)
        obtain ⟨i0, hi0, hz0, hz1, hz2⟩ := info_parts info_ref
        have I0 := Lib.hid (And.intro hi0 (And.intro hz0 (And.intro hz1 hz2)))
        obtain ⟨j0, hj0, jz0, jz1, jz2⟩ := info_parts info_i64
        have J0 := Lib.hid (And.intro hj0 (And.intro jz0 (And.intro jz1 jz2)))
        obtain ⟨k0, hk0, kz0, kz1, kz2⟩ := info_parts info_int
        have K0 := Lib.hid (And.intro hk0 (And.intro kz0 (And.intro kz1 kz2)))
        clear hi0 hz0 hz1 hz2 hj0 jz0 jz1 jz2 hk0 kz0 kz1 kz2 H5 hrb hw5
        go_wp2_with fail
        rw [HWW.out.1, HWW.out.2]
        clear HWW
        have HKW := Lib.hid (And.intro hkp hwy)
        clear hkp hwy
        go_loopw [19, 93] (fun s19 i wr => ∃ (j : Nat) (ao : Option Addr) (co : Nat), i = .int .i64 (j : Nat) ∧ j ≤ ts.length ∧ s19 = .slice ao j co ∧ Hid (∃ a1 c1 a2 c2, Heap w wr ([rowP 3 1 (.slice ao j co) j (intC ((onL ts j).map fun (i : Nat) => (i : Int))), rowP 29 1 (.slice a1 j c1) j (intC ((onL ts j).map told)), rowP 2 1 (.slice a2 j c2) j (intC (fsL ts j)), blkP rb 78 #[.slice a1 j c1, .slice a2 j c2, .int .i64 (kp : Int), .int .i64 wy, .int .i64 0, .int .i64 99], blkP bN 2 (nowA L0)] ++ (wdL c { ndW 1 5 with ar := nkS (L0) } ++ [rowP 29 1 (.slice a0 5 cp) 5 (intC (tolds 5))])))) (fun _ i _ => ts.length - (intOf i).toNat)
        case atStart => exact ⟨0, none, 0, rfl, Nat.zero_le _, rfl, HH⟩
        case round =>
        clear HH
        obtain ⟨j, ao, co, rfl, hj, rfl, HH⟩ := hrel
        by_cases hlt : j < ts.length
        · obtain ⟨a1, c1, a2, c2, H0⟩ := HH.out
          clear HH
          obtain ⟨b1, eb, hc1, hat1⟩ := (HR1.out.fr H0.fr (fun _ _ _ x => x)).at (by omega)
          have eb : qa = some b1 := by simpa using eb
          obtain ⟨⟨d, kk⟩, hyk⟩ : ∃ y, ts[j]? = some y := ⟨_, List.getElem?_eq_getElem hlt⟩
          have y1 : World.cell? _ (b1.add (j * 2)) = some (.int .u8 d) := hat1 _ _ (tcC_get ts _ _ hyk).1
          have y2 : World.cell? _ (b1.add (j * 2 + 1)) = some (.int .i8 kk) := hat1 _ _ (tcC_get ts _ _ hyk).2
          rw [tc_field] at y2
          obtain ⟨⟨d0, d1⟩, ⟨k0', k1'⟩⟩ := HY1.out _ (List.mem_of_getElem? hyk)
          dsimp only at d0 d1 k0' k1'
          obtain ⟨g9, ee, hcc, hat⟩ := (H0.row 9 (t := 29) (sz := 1) (n := 5) (v := .slice a0 5 cp) (us := intC (tolds 5)) rfl).rdv.at (by omega)
          have ee : a0 = some g9 := by simpa using ee
          subst eb ee
          obtain ⟨i, hi⟩ : ∃ i : Nat, d % 5 = (i : Int) := ⟨(d % 5).toNat, by omega⟩
          obtain ⟨f, hf⟩ : ∃ f, kk.tmod 4 = f := ⟨_, rfl⟩
          have hfb : -3 ≤ f ∧ f ≤ 3 := by rw [← hf]; exact tmod4 kk
          have hi5 : i < 5 := by omega
          have hii : (i : Int) < 5 := by omega
          have HI := Lib.hid (And.intro hyk (And.intro hi hf))
          have H1 := H0.allocF 94 #[.int .u8 d, .int .i8 kk]
          obtain ⟨bt, hbt⟩ : ∃ r, wr.heap.size = r := ⟨_, rfl⟩
          obtain ⟨x1, hx1⟩ : ∃ z, wr.alloc (.cells #[.int .u8 d, .int .i8 kk] 94) = z := ⟨_, rfl⟩
          rw [hbt, hx1] at H1
          have HH1 := Lib.hid H1
          have HWW := Lib.hid (And.intro hbt hx1)
          clear H0 H1 hbt hx1 hat1 hat hyk hc1 hcc
          go_upto_region 18 with fail
          rw [HWW.out.1, HWW.out.2]
          clear HWW y1 y2
          have BT := HH1.out.blk 0 (b := bt) (t := 94) (c := #[.int .u8 d, .int .i8 kk]) rfl
          have e0 := BT.cell 0
          have QQ := Lib.hid (HH1.out.row 1 (t := 3) (sz := 1) (n := j) (v := .slice ao j co) (us := intC ((onL ts j).map fun (i : Nat) => (i : Int))) rfl)
          have hlm : j + 1 ≤ maxLen := by unfold maxLen; omega
          have hlb : (j + 1) * 8 ≤ 140737488355328 := by omega
          have HL := Lib.hid (And.intro hlm hlb)
          clear hlm hlb BT
          go_upto_region 19 with fail
          go_wp2_with (at_builtin; refine wpList_append_typed _ rfl _ _ _ (by rfl) 3 k0 (.int .i64 0) 1 8 Try.underlying92 K0.out.1 K0.out.2.1 K0.out.2.2.1 K0.out.2.2.2 rfl (by decide) (.slice ao j co) j (intC ((onL ts j).map fun (i : Nat) => (i : Int))) (by rfl) (QQ.out.fr (F := nob) (by repeat (first | exact Fr.refl _ _ | apply Fr.drew | apply Fr.alloc)) (fun _ _ _ x => x)) _ 1 [.int .i64 (i : Int)] (by rfl) (RdV.block (cs := #[.int .i64 (i : Int)]) (t := 3) (by repeat (first | exact Blk.new' rfl _ _ | apply Blk.drew | apply Blk.alloc)) rfl (by decide)) (by simp [Value.oneCell']) HL.out.1 HL.out.2 ?_)
          intro ao2 co2 x2 q9 grow hat9
          have G9 := HH1.out.growRow 1 (t := 3) (sz := 1) (n := j) (v := .slice ao j co) (us := intC ((onL ts j).map fun (i : Nat) => (i : Int))) rfl (Fr.alloc (Fr.refl nob x1) (.cells #[.int .i64 (i : Int)] 3)) q9 grow (fun g hg => (hat9 g hg).imp_left (fun h => h.imp_right (fun h => by simpa using h)))
          have HH2 : Hid (Heap w x2 ([blkP bt 94 #[.int .u8 d, .int .i8 kk], rowP 3 1 (.slice ao2 (j + 1) co2) (j + 1) (intC ((onL ts j).map fun (i : Nat) => (i : Int)) ++ [.int .i64 (i : Int)]), rowP 29 1 (.slice a1 j c1) j (intC ((onL ts j).map told)), rowP 2 1 (.slice a2 j c2) j (intC (fsL ts j)), blkP rb 78 #[.slice a1 j c1, .slice a2 j c2, .int .i64 (kp : Int), .int .i64 wy, .int .i64 0, .int .i64 99], blkP bN 2 (nowA L0)] ++ (wdL c { ndW 1 5 with ar := nkS (L0) } ++ [rowP 29 1 (.slice (some g9) 5 cp) 5 (intC (tolds 5))]))) := Lib.hid G9
          clear G9 q9 grow hat9 QQ HH1 e0
          as_aux_lemma =>
            go_upto_region 20 with fail
            have HZ := Lib.hid HH2.out.drew
            have q0 : World.cell? x2.drew ⟨rb, 0, none⟩ = some (.slice a1 j c1) ∧ World.cell? x2.drew ⟨rb, 1, none⟩ = some (.slice a2 j c2) ∧ World.cell? x2.drew (g9.add i) = some (.int .i64 (told i)) ∧ World.cell? x2.drew ⟨bt, 1, none⟩ = some (.int .i8 kk) := al2_qs hi5 (HZ.out.blk 4 (b := rb) (t := 78) (c := #[.slice a1 j c1, .slice a2 j c2, .int .i64 (kp : Int), .int .i64 wy, .int .i64 0, .int .i64 99]) rfl) (HZ.out.row 10 (t := 29) (sz := 1) (n := 5) (v := .slice (some g9) 5 cp) (us := intC (tolds 5)) rfl) (HZ.out.blk 0 (b := bt) (t := 94) (c := #[.int .u8 d, .int .i8 kk]) rfl)
            clear HH2 hi
            have hwf := wrap_f hfb
            refine wp_region_noPanic ?_
            refine AnyK.start (ks := [17, 18, 19]) (S := fun w' => w'.cell? ⟨rb, 0, none⟩ = some (.slice a1 j c1) ∧ w'.cell? ⟨rb, 1, none⟩ = some (.slice a2 j c2) ∧ w'.cell? (g9.add i) = some (.int .i64 (told i)) ∧ w'.cell? ⟨bt, 1, none⟩ = some (.int .i8 kk)) (by kernel_rfl) (by exact q0) (fun _ => ?_)
            refine AnyK.takeB (i := 0) (v := ?_) rfl (by kernel_rfl) (by kernel_rfl) (by kernel_rfl) (by kernel_rfl) (fun _ _ _ h => h) (Or.inl ⟨by rfl, ?_⟩) (by exact q0) ?_
            rotate_left
            focus
              intro w9 hSw
              try dsimp only at hSw
              go_simp
              try with_reducible rfl
            try simp only [Act.put, List.getElem_toArray, List.getElem_cons_zero, List.getElem_cons_succ, List.setIfInBounds_toArray, List.set_cons_zero, List.set_cons_succ]
            refine AnyK.takeB (i := 1) (v := ?_) rfl (by kernel_rfl) (by kernel_rfl) (by kernel_rfl) (by kernel_rfl) (fun _ _ _ h => h) (Or.inl ⟨by rfl, ?_⟩) (by exact q0) ?_
            rotate_left
            focus
              intro w9 hSw
              try dsimp only at hSw
              go_simp
              try with_reducible rfl
            try simp only [Act.put, List.getElem_toArray, List.getElem_cons_zero, List.getElem_cons_succ, List.setIfInBounds_toArray, List.set_cons_zero, List.set_cons_succ]
            refine AnyK.takeB (i := 2) (v := ?_) rfl (by kernel_rfl) (by kernel_rfl) (by kernel_rfl) (by kernel_rfl) (fun _ _ _ h => h) (Or.inl ⟨by rfl, ?_⟩) (by exact q0) ?_
            rotate_left
            focus
              intro w9 hSw
              try dsimp only at hSw
              go_simp
              try with_reducible rfl
            try simp only [Act.put, List.getElem_toArray, List.getElem_cons_zero, List.getElem_cons_succ, List.setIfInBounds_toArray, List.set_cons_zero, List.set_cons_succ]
            refine AnyK.takeB (i := 3) (v := ?_) rfl (by kernel_rfl) (by kernel_rfl) (by kernel_rfl) (by kernel_rfl) (fun _ _ _ h => h) (Or.inl ⟨by rfl, ?_⟩) (by exact q0) ?_
            rotate_left
            focus
              intro w9 hSw
              try dsimp only at hSw
              go_simp
              try with_reducible rfl
            try simp only [Act.put, List.getElem_toArray, List.getElem_cons_zero, List.getElem_cons_succ, List.setIfInBounds_toArray, List.set_cons_zero, List.set_cons_succ]
            refine AnyK.takeB (i := 4) (v := ?_) rfl (by kernel_rfl) (by kernel_rfl) (by kernel_rfl) (by kernel_rfl) (fun _ _ _ h => h) (Or.inl ⟨by rfl, ?_⟩) (by exact q0) ?_
            rotate_left
            focus
              intro w9 hSw
              try dsimp only at hSw
              go_simp
              try with_reducible rfl
            try simp only [Act.put, List.getElem_toArray, List.getElem_cons_zero, List.getElem_cons_succ, List.setIfInBounds_toArray, List.set_cons_zero, List.set_cons_succ]
            refine AnyK.takeB (i := 5) (v := ?_) rfl (by kernel_rfl) (by kernel_rfl) (by kernel_rfl) (by kernel_rfl) (fun _ _ _ h => h) (Or.inl ⟨by rfl, ?_⟩) (by exact q0) ?_
            rotate_left
            focus
              intro w9 hSw
              try dsimp only at hSw
              go_simp
              try with_reducible rfl
            try simp only [Act.put, List.getElem_toArray, List.getElem_cons_zero, List.getElem_cons_succ, List.setIfInBounds_toArray, List.set_cons_zero, List.set_cons_succ]
            refine AnyK.takeB (i := 8) (v := ?_) rfl (by kernel_rfl) (by kernel_rfl) (by kernel_rfl) (by kernel_rfl) (fun _ _ _ h => h) (Or.inl ⟨by rfl, ?_⟩) (by exact q0) ?_
            rotate_left
            focus
              intro w9 hSw
              try dsimp only at hSw
              go_simp
              try with_reducible rfl
            try simp only [Act.put, List.getElem_toArray, List.getElem_cons_zero, List.getElem_cons_succ, List.setIfInBounds_toArray, List.set_cons_zero, List.set_cons_succ]
            refine AnyK.takeB (i := 9) (v := ?_) rfl (by kernel_rfl) (by kernel_rfl) (by kernel_rfl) (by kernel_rfl) (fun _ _ _ h => h) (Or.inl ⟨by rfl, ?_⟩) (by exact q0) ?_
            rotate_left
            focus
              intro w9 hSw
              try dsimp only at hSw
              go_simp
              try with_reducible rfl
            try simp only [Act.put, List.getElem_toArray, List.getElem_cons_zero, List.getElem_cons_succ, List.setIfInBounds_toArray, List.set_cons_zero, List.set_cons_succ]
            refine AnyK.takeB (i := 10) (v := ?_) rfl (by kernel_rfl) (by kernel_rfl) (by kernel_rfl) (by kernel_rfl) (fun _ _ _ h => h) (Or.inl ⟨by rfl, ?_⟩) (by exact q0) ?_
            rotate_left
            focus
              intro w9 hSw
              try dsimp only at hSw
              go_simp
              try with_reducible rfl
            try simp only [Act.put, List.getElem_toArray, List.getElem_cons_zero, List.getElem_cons_succ, List.setIfInBounds_toArray, List.set_cons_zero, List.set_cons_succ]
            refine AnyK.takeB (i := 11) (v := ?_) rfl (by kernel_rfl) (by kernel_rfl) (by kernel_rfl) (by kernel_rfl) (fun _ _ _ h => h) (Or.inl ⟨by rfl, ?_⟩) (by exact q0) ?_
            rotate_left
            focus
              intro w9 hSw
              try dsimp only at hSw
              go_simp
              try with_reducible rfl
            try simp only [Act.put, List.getElem_toArray, List.getElem_cons_zero, List.getElem_cons_succ, List.setIfInBounds_toArray, List.set_cons_zero, List.set_cons_succ]
            refine AnyK.takeB (i := 12) (v := ?_) rfl (by kernel_rfl) (by kernel_rfl) (by kernel_rfl) (by kernel_rfl) (fun _ _ _ h => h) (Or.inl ⟨by rfl, ?_⟩) (by exact q0) ?_
            rotate_left
            focus
              intro w9 hSw
              try dsimp only at hSw
              go_simp
              try with_reducible rfl
            try simp only [Act.put, List.getElem_toArray, List.getElem_cons_zero, List.getElem_cons_succ, List.setIfInBounds_toArray, List.set_cons_zero, List.set_cons_succ]
            refine AnyK.takeB (i := 13) (v := ?_) rfl (by kernel_rfl) (by kernel_rfl) (by kernel_rfl) (by kernel_rfl) (fun _ _ _ h => h) (Or.inl ⟨by rfl, ?_⟩) (by exact q0) ?_
            rotate_left
            focus
              intro w9 hSw
              try dsimp only at hSw
              go_simp
              try with_reducible rfl
            try simp only [Act.put, List.getElem_toArray, List.getElem_cons_zero, List.getElem_cons_succ, List.setIfInBounds_toArray, List.set_cons_zero, List.set_cons_succ]
            clear q0 hwf hf
            refine name_w (fun z0 hz0 => ?_)
            rw [← hz0] at HZ
            clear hz0
            refine AnyK.two (i := 6) (j := 14) (by kernel_rfl) rfl rfl (fun K9 hK9 => ?_) (fun K9 hK9 => ?_)
            · go_simp
              have H9 := HZ.out.allocF 29 #[.int .i64 (told i)]
              generalize z0.heap.size = b3 at H9 hK9 ⊢
              generalize z0.alloc (.cells #[.int .i64 (told i)] 29) = x6 at H9 hK9 ⊢
              have H9 : Heap w x6 ([blkP b3 29 #[.int .i64 (told i)], blkP bt 94 #[.int .u8 d, .int .i8 kk], rowP 3 1 (.slice ao2 (j + 1) co2) (j + 1) (intC ((onL ts j).map fun (i : Nat) => (i : Int)) ++ [.int .i64 (i : Int)]), rowP 29 1 (.slice a1 j c1) j (intC ((onL ts j).map told)), rowP 2 1 (.slice a2 j c2) j (intC (fsL ts j)), blkP rb 78 #[.slice a1 j c1, .slice a2 j c2, .int .i64 (kp : Int), .int .i64 wy, .int .i64 0, .int .i64 99], blkP bN 2 (nowA L0)] ++ (wdL c { ndW 1 5 with ar := nkS (L0) } ++ [rowP 29 1 (.slice (some g9) 5 cp) 5 (intC (tolds 5))])) := H9
              have HH1 := Lib.hid H9
              clear H9 HZ
              have qs := al2_qs hi5 (HH1.out.blk 5 (b := rb) (t := 78) (c := #[.slice a1 j c1, .slice a2 j c2, .int .i64 (kp : Int), .int .i64 wy, .int .i64 0, .int .i64 99]) rfl) (HH1.out.row 11 (t := 29) (sz := 1) (n := 5) (v := .slice (some g9) 5 cp) (us := intC (tolds 5)) rfl) (HH1.out.blk 1 (b := bt) (t := 94) (c := #[.int .u8 d, .int .i8 kk]) rfl)
              refine hK9.out _ _ (fun _ => qs) ?_
              clear hK9 K9
              try simp only [Act.put, List.getElem_toArray, List.getElem_cons_zero, List.getElem_cons_succ, List.setIfInBounds_toArray, List.set_cons_zero, List.set_cons_succ]
              refine AnyK.two (i := 7) (j := 14) (by kernel_rfl) rfl rfl (fun K9 hK9 => ?_) (fun K9 hK9 => ?_)
              · refine step_append_typed _ (by rfl) (.tmp 106) (.tmp 111) 50 (by rfl) 29 i0 _ 1 8 Try.underlying50 I0.out.1 I0.out.2.1 I0.out.2.2.1 I0.out.2.2.2 rfl (by decide) (.slice a1 j c1) j (intC ((onL ts j).map told)) (by simp [Act.eval]) (HH1.out.row 3 rfl) (.slice (some ⟨b3, 0, none⟩) 1 1) 1 [.int .i64 (told i)] (by simp [Act.eval]) (RdV.block (cs := #[.int .i64 (told i)]) (t := 29) (HH1.out.blk 0 rfl) rfl (by decide)) (fun u hu => by simp at hu; subst hu; rfl) HL.out.1 HL.out.2 ?_
                intro a3 c3 w3 q3 grow3 hat3
                have H9 := HH1.out.growRow 3 rfl (Fr.refl _ _) q3 grow3 (fun g hg => (hat3 g hg).resolve_left (fun h => absurd h.1 (by decide)))
                clear q3 grow3 hat3
                have H9 : Heap w w3 ([blkP b3 29 #[.int .i64 (told i)], blkP bt 94 #[.int .u8 d, .int .i8 kk], rowP 3 1 (.slice ao2 (j + 1) co2) (j + 1) (intC ((onL ts j).map fun (i : Nat) => (i : Int)) ++ [.int .i64 (i : Int)]), rowP 29 1 (.slice a3 (j + 1) c3) (j + 1) (intC ((onL ts j).map told) ++ [.int .i64 (told i)]), rowP 2 1 (.slice a2 j c2) j (intC (fsL ts j)), blkP rb 78 #[.slice a1 j c1, .slice a2 j c2, .int .i64 (kp : Int), .int .i64 wy, .int .i64 0, .int .i64 99], blkP bN 2 (nowA L0)] ++ (wdL c { ndW 1 5 with ar := nkS (L0) } ++ [rowP 29 1 (.slice (some g9) 5 cp) 5 (intC (tolds 5))])) := H9
                have HH2 := Lib.hid H9
                clear H9 HH1
                have qs := al2_qs hi5 (HH2.out.blk 5 (b := rb) (t := 78) (c := #[.slice a1 j c1, .slice a2 j c2, .int .i64 (kp : Int), .int .i64 wy, .int .i64 0, .int .i64 99]) rfl) (HH2.out.row 11 (t := 29) (sz := 1) (n := 5) (v := .slice (some g9) 5 cp) (us := intC (tolds 5)) rfl) (HH2.out.blk 1 (b := bt) (t := 94) (c := #[.int .u8 d, .int .i8 kk]) rfl)
                refine hK9.out _ _ (fun _ => qs) ?_
                clear hK9 K9
                try simp only [Act.put, List.getElem_toArray, List.getElem_cons_zero, List.getElem_cons_succ, List.setIfInBounds_toArray, List.set_cons_zero, List.set_cons_succ]
                have qs := al2_qs hi5 (HH2.out.blk 5 (b := rb) (t := 78) (c := #[.slice a1 j c1, .slice a2 j c2, .int .i64 (kp : Int), .int .i64 wy, .int .i64 0, .int .i64 99]) rfl) (HH2.out.row 11 (t := 29) (sz := 1) (n := 5) (v := .slice (some g9) 5 cp) (us := intC (tolds 5)) rfl) (HH2.out.blk 1 (b := bt) (t := 94) (c := #[.int .u8 d, .int .i8 kk]) rfl)
                refine AnyK.take (i := 16) (v := ?_) rfl (by kernel_rfl) (by kernel_rfl) (by kernel_rfl) (by kernel_rfl) (fun _ _ _ h => h) (Or.inl ⟨by rfl, ?_⟩) (by exact qs) ?_
                rotate_left
                focus
                  intro w9 hSw
                  try dsimp only at hSw
                  go_simp
                  try with_reducible rfl
                try simp only [Act.put, List.getElem_toArray, List.getElem_cons_zero, List.getElem_cons_succ, List.setIfInBounds_toArray, List.set_cons_zero, List.set_cons_succ]
                clear qs
                refine AnyK.one (i := 14) (by kernel_rfl) rfl (fun K9 hK9 => ?_)
                go_simp
                have H9 := HH2.out.allocF 2 #[.int .i64 f]
                generalize w3.heap.size = b7 at H9 hK9 ⊢
                generalize w3.alloc (.cells #[.int .i64 f] 2) = x14 at H9 hK9 ⊢
                have H9 : Heap w x14 ([blkP b7 2 #[.int .i64 f], blkP b3 29 #[.int .i64 (told i)], blkP bt 94 #[.int .u8 d, .int .i8 kk], rowP 3 1 (.slice ao2 (j + 1) co2) (j + 1) (intC ((onL ts j).map fun (i : Nat) => (i : Int)) ++ [.int .i64 (i : Int)]), rowP 29 1 (.slice a3 (j + 1) c3) (j + 1) (intC ((onL ts j).map told) ++ [.int .i64 (told i)]), rowP 2 1 (.slice a2 j c2) j (intC (fsL ts j)), blkP rb 78 #[.slice a1 j c1, .slice a2 j c2, .int .i64 (kp : Int), .int .i64 wy, .int .i64 0, .int .i64 99], blkP bN 2 (nowA L0)] ++ (wdL c { ndW 1 5 with ar := nkS (L0) } ++ [rowP 29 1 (.slice (some g9) 5 cp) 5 (intC (tolds 5))])) := H9
                have HH3 := Lib.hid H9
                clear H9 HH2
                have qs := al2_qs hi5 (HH3.out.blk 6 (b := rb) (t := 78) (c := #[.slice a1 j c1, .slice a2 j c2, .int .i64 (kp : Int), .int .i64 wy, .int .i64 0, .int .i64 99]) rfl) (HH3.out.row 12 (t := 29) (sz := 1) (n := 5) (v := .slice (some g9) 5 cp) (us := intC (tolds 5)) rfl) (HH3.out.blk 2 (b := bt) (t := 94) (c := #[.int .u8 d, .int .i8 kk]) rfl)
                refine hK9.out _ _ (fun _ => qs) ?_
                clear hK9 K9
                try simp only [Act.put, List.getElem_toArray, List.getElem_cons_zero, List.getElem_cons_succ, List.setIfInBounds_toArray, List.set_cons_zero, List.set_cons_succ]
                refine AnyK.one (i := 15) (by kernel_rfl) rfl (fun K9 hK9 => ?_)
                refine step_append_typed _ (by rfl) (.tmp 114) (.tmp 119) 35 (by rfl) 2 j0 _ 1 8 Try.underlying35 J0.out.1 J0.out.2.1 J0.out.2.2.1 J0.out.2.2.2 rfl (by decide) (.slice a2 j c2) j (intC (fsL ts j)) (by simp [Act.eval]) (HH3.out.row 5 rfl) (.slice (some ⟨b7, 0, none⟩) 1 1) 1 [.int .i64 f] (by simp [Act.eval]) (RdV.block (cs := #[.int .i64 f]) (t := 2) (HH3.out.blk 0 rfl) rfl (by decide)) (fun u hu => by simp at hu; subst hu; rfl) HL.out.1 HL.out.2 ?_
                intro a4 c4 w4 q4 grow4 hat4
                have H9 := HH3.out.growRow 5 rfl (Fr.refl _ _) q4 grow4 (fun g hg => (hat4 g hg).resolve_left (fun h => absurd h.1 (by decide)))
                clear q4 grow4 hat4
                have H9 : Heap w w4 ([blkP b7 2 #[.int .i64 f], blkP b3 29 #[.int .i64 (told i)], blkP bt 94 #[.int .u8 d, .int .i8 kk], rowP 3 1 (.slice ao2 (j + 1) co2) (j + 1) (intC ((onL ts j).map fun (i : Nat) => (i : Int)) ++ [.int .i64 (i : Int)]), rowP 29 1 (.slice a3 (j + 1) c3) (j + 1) (intC ((onL ts j).map told) ++ [.int .i64 (told i)]), rowP 2 1 (.slice a4 (j + 1) c4) (j + 1) (intC (fsL ts j) ++ [.int .i64 f]), blkP rb 78 #[.slice a1 j c1, .slice a2 j c2, .int .i64 (kp : Int), .int .i64 wy, .int .i64 0, .int .i64 99], blkP bN 2 (nowA L0)] ++ (wdL c { ndW 1 5 with ar := nkS (L0) } ++ [rowP 29 1 (.slice (some g9) 5 cp) 5 (intC (tolds 5))])) := H9
                have HH4 := Lib.hid H9
                clear H9 HH3
                have qs := al2_qs hi5 (HH4.out.blk 6 (b := rb) (t := 78) (c := #[.slice a1 j c1, .slice a2 j c2, .int .i64 (kp : Int), .int .i64 wy, .int .i64 0, .int .i64 99]) rfl) (HH4.out.row 12 (t := 29) (sz := 1) (n := 5) (v := .slice (some g9) 5 cp) (us := intC (tolds 5)) rfl) (HH4.out.blk 2 (b := bt) (t := 94) (c := #[.int .u8 d, .int .i8 kk]) rfl)
                refine hK9.out _ _ (fun _ => qs) ?_
                clear hK9 K9
                try simp only [Act.put, List.getElem_toArray, List.getElem_cons_zero, List.getElem_cons_succ, List.setIfInBounds_toArray, List.set_cons_zero, List.set_cons_succ]
                refine AnyK.phase (S' := fun _ => True) (ks' := []) (by kernel_rfl) ?_
                have B1 := HH4.out.blk 6 (b := rb) (t := 78) (c := #[.slice a1 j c1, .slice a2 j c2, .int .i64 (kp : Int), .int .i64 wy, .int .i64 0, .int .i64 99]) rfl
                have e10 := B1.cell 0
                have f10 := B1.froz 0
                have e11 := B1.cell 1
                have f11 := B1.froz 1
                clear B1
                have H9 := (HH4.out.setCell 6 rfl 0 (.slice a3 (j + 1) c3)).setCell 6 rfl 1 (.slice a4 (j + 1) c4)
                have H9 : Heap w _ ([blkP b7 2 #[.int .i64 f], blkP b3 29 #[.int .i64 (told i)], blkP bt 94 #[.int .u8 d, .int .i8 kk], rowP 3 1 (.slice ao2 (j + 1) co2) (j + 1) (intC ((onL ts j).map fun (i : Nat) => (i : Int)) ++ [.int .i64 (i : Int)]), rowP 29 1 (.slice a3 (j + 1) c3) (j + 1) (intC ((onL ts j).map told) ++ [.int .i64 (told i)]), rowP 2 1 (.slice a4 (j + 1) c4) (j + 1) (intC (fsL ts j) ++ [.int .i64 f]), blkP rb 78 #[.slice a3 (j + 1) c3, .slice a4 (j + 1) c4, .int .i64 (kp : Int), .int .i64 wy, .int .i64 0, .int .i64 99], blkP bN 2 (nowA L0)] ++ (wdL c { ndW 1 5 with ar := nkS (L0) } ++ [rowP 29 1 (.slice (some g9) 5 cp) 5 (intC (tolds 5))])) := H9
                have H9 := Lib.hid H9.tailP.tailP.tailP
                refine AnyK.one (i := 17) (by kernel_rfl) rfl (fun K9 hK9 => ?_)
                go_simp
                refine hK9.out _ _ (fun _ => trivial) ?_
                clear hK9 K9
                try simp only [Act.put, List.getElem_toArray, List.getElem_cons_zero, List.getElem_cons_succ, List.setIfInBounds_toArray, List.set_cons_zero, List.set_cons_succ]
                refine AnyK.take (i := 18) (v := ?_) rfl (by kernel_rfl) (by kernel_rfl) (by kernel_rfl) (by kernel_rfl) (fun _ _ _ h => h) (Or.inl ⟨by rfl, ?_⟩) (by exact trivial) ?_
                rotate_left
                focus
                  intro w9 hSw
                  try dsimp only at hSw
                  go_simp
                  try with_reducible rfl
                try simp only [Act.put, List.getElem_toArray, List.getElem_cons_zero, List.getElem_cons_succ, List.setIfInBounds_toArray, List.set_cons_zero, List.set_cons_succ]
                refine AnyK.one (i := 19) (by kernel_rfl) rfl (fun K9 hK9 => ?_)
                go_simp
                refine hK9.out _ _ (fun _ => trivial) ?_
                clear hK9 K9
                try simp only [Act.put, List.getElem_toArray, List.getElem_cons_zero, List.getElem_cons_succ, List.setIfInBounds_toArray, List.set_cons_zero, List.set_cons_succ]
                refine AnyK.done (by kernel_rfl) ?_ _
                refine NoPanic.normal ?_
                have HX := al2_next HI.out.1 HI.out.2.1 HI.out.2.2 H9.out
                clear H9
                go_wp2_with fail
                exact ⟨⟨j + 1, ao2, co2, by go_num, by omega, rfl, HX⟩, by simp [intOf]; omega⟩
              · go_simp
                have H9 := HH1.out.allocF 2 #[.int .i64 f]
                generalize x6.heap.size = b7 at H9 hK9 ⊢
                generalize x6.alloc (.cells #[.int .i64 f] 2) = x14 at H9 hK9 ⊢
                have H9 : Heap w x14 ([blkP b7 2 #[.int .i64 f], blkP b3 29 #[.int .i64 (told i)], blkP bt 94 #[.int .u8 d, .int .i8 kk], rowP 3 1 (.slice ao2 (j + 1) co2) (j + 1) (intC ((onL ts j).map fun (i : Nat) => (i : Int)) ++ [.int .i64 (i : Int)]), rowP 29 1 (.slice a1 j c1) j (intC ((onL ts j).map told)), rowP 2 1 (.slice a2 j c2) j (intC (fsL ts j)), blkP rb 78 #[.slice a1 j c1, .slice a2 j c2, .int .i64 (kp : Int), .int .i64 wy, .int .i64 0, .int .i64 99], blkP bN 2 (nowA L0)] ++ (wdL c { ndW 1 5 with ar := nkS (L0) } ++ [rowP 29 1 (.slice (some g9) 5 cp) 5 (intC (tolds 5))])) := H9
                have HH2 := Lib.hid H9
                clear H9 HH1
                have qs := al2_qs hi5 (HH2.out.blk 6 (b := rb) (t := 78) (c := #[.slice a1 j c1, .slice a2 j c2, .int .i64 (kp : Int), .int .i64 wy, .int .i64 0, .int .i64 99]) rfl) (HH2.out.row 12 (t := 29) (sz := 1) (n := 5) (v := .slice (some g9) 5 cp) (us := intC (tolds 5)) rfl) (HH2.out.blk 2 (b := bt) (t := 94) (c := #[.int .u8 d, .int .i8 kk]) rfl)
                refine hK9.out _ _ (fun _ => qs) ?_
                clear hK9 K9
                try simp only [Act.put, List.getElem_toArray, List.getElem_cons_zero, List.getElem_cons_succ, List.setIfInBounds_toArray, List.set_cons_zero, List.set_cons_succ]
                refine AnyK.one (i := 7) (by kernel_rfl) rfl (fun K9 hK9 => ?_)
                refine step_append_typed _ (by rfl) (.tmp 106) (.tmp 111) 50 (by rfl) 29 i0 _ 1 8 Try.underlying50 I0.out.1 I0.out.2.1 I0.out.2.2.1 I0.out.2.2.2 rfl (by decide) (.slice a1 j c1) j (intC ((onL ts j).map told)) (by simp [Act.eval]) (HH2.out.row 4 rfl) (.slice (some ⟨b3, 0, none⟩) 1 1) 1 [.int .i64 (told i)] (by simp [Act.eval]) (RdV.block (cs := #[.int .i64 (told i)]) (t := 29) (HH2.out.blk 1 rfl) rfl (by decide)) (fun u hu => by simp at hu; subst hu; rfl) HL.out.1 HL.out.2 ?_
                intro a3 c3 w3 q3 grow3 hat3
                have H9 := HH2.out.growRow 4 rfl (Fr.refl _ _) q3 grow3 (fun g hg => (hat3 g hg).resolve_left (fun h => absurd h.1 (by decide)))
                clear q3 grow3 hat3
                have H9 : Heap w w3 ([blkP b7 2 #[.int .i64 f], blkP b3 29 #[.int .i64 (told i)], blkP bt 94 #[.int .u8 d, .int .i8 kk], rowP 3 1 (.slice ao2 (j + 1) co2) (j + 1) (intC ((onL ts j).map fun (i : Nat) => (i : Int)) ++ [.int .i64 (i : Int)]), rowP 29 1 (.slice a3 (j + 1) c3) (j + 1) (intC ((onL ts j).map told) ++ [.int .i64 (told i)]), rowP 2 1 (.slice a2 j c2) j (intC (fsL ts j)), blkP rb 78 #[.slice a1 j c1, .slice a2 j c2, .int .i64 (kp : Int), .int .i64 wy, .int .i64 0, .int .i64 99], blkP bN 2 (nowA L0)] ++ (wdL c { ndW 1 5 with ar := nkS (L0) } ++ [rowP 29 1 (.slice (some g9) 5 cp) 5 (intC (tolds 5))])) := H9
                have HH3 := Lib.hid H9
                clear H9 HH2
                have qs := al2_qs hi5 (HH3.out.blk 6 (b := rb) (t := 78) (c := #[.slice a1 j c1, .slice a2 j c2, .int .i64 (kp : Int), .int .i64 wy, .int .i64 0, .int .i64 99]) rfl) (HH3.out.row 12 (t := 29) (sz := 1) (n := 5) (v := .slice (some g9) 5 cp) (us := intC (tolds 5)) rfl) (HH3.out.blk 2 (b := bt) (t := 94) (c := #[.int .u8 d, .int .i8 kk]) rfl)
                refine hK9.out _ _ (fun _ => qs) ?_
                clear hK9 K9
                try simp only [Act.put, List.getElem_toArray, List.getElem_cons_zero, List.getElem_cons_succ, List.setIfInBounds_toArray, List.set_cons_zero, List.set_cons_succ]
                have qs := al2_qs hi5 (HH3.out.blk 6 (b := rb) (t := 78) (c := #[.slice a1 j c1, .slice a2 j c2, .int .i64 (kp : Int), .int .i64 wy, .int .i64 0, .int .i64 99]) rfl) (HH3.out.row 12 (t := 29) (sz := 1) (n := 5) (v := .slice (some g9) 5 cp) (us := intC (tolds 5)) rfl) (HH3.out.blk 2 (b := bt) (t := 94) (c := #[.int .u8 d, .int .i8 kk]) rfl)
                refine AnyK.take (i := 16) (v := ?_) rfl (by kernel_rfl) (by kernel_rfl) (by kernel_rfl) (by kernel_rfl) (fun _ _ _ h => h) (Or.inl ⟨by rfl, ?_⟩) (by exact qs) ?_
                rotate_left
                focus
                  intro w9 hSw
                  try dsimp only at hSw
                  go_simp
                  try with_reducible rfl
                try simp only [Act.put, List.getElem_toArray, List.getElem_cons_zero, List.getElem_cons_succ, List.setIfInBounds_toArray, List.set_cons_zero, List.set_cons_succ]
                clear qs
                refine AnyK.one (i := 15) (by kernel_rfl) rfl (fun K9 hK9 => ?_)
                refine step_append_typed _ (by rfl) (.tmp 114) (.tmp 119) 35 (by rfl) 2 j0 _ 1 8 Try.underlying35 J0.out.1 J0.out.2.1 J0.out.2.2.1 J0.out.2.2.2 rfl (by decide) (.slice a2 j c2) j (intC (fsL ts j)) (by simp [Act.eval]) (HH3.out.row 5 rfl) (.slice (some ⟨b7, 0, none⟩) 1 1) 1 [.int .i64 f] (by simp [Act.eval]) (RdV.block (cs := #[.int .i64 f]) (t := 2) (HH3.out.blk 0 rfl) rfl (by decide)) (fun u hu => by simp at hu; subst hu; rfl) HL.out.1 HL.out.2 ?_
                intro a4 c4 w4 q4 grow4 hat4
                have H9 := HH3.out.growRow 5 rfl (Fr.refl _ _) q4 grow4 (fun g hg => (hat4 g hg).resolve_left (fun h => absurd h.1 (by decide)))
                clear q4 grow4 hat4
                have H9 : Heap w w4 ([blkP b7 2 #[.int .i64 f], blkP b3 29 #[.int .i64 (told i)], blkP bt 94 #[.int .u8 d, .int .i8 kk], rowP 3 1 (.slice ao2 (j + 1) co2) (j + 1) (intC ((onL ts j).map fun (i : Nat) => (i : Int)) ++ [.int .i64 (i : Int)]), rowP 29 1 (.slice a3 (j + 1) c3) (j + 1) (intC ((onL ts j).map told) ++ [.int .i64 (told i)]), rowP 2 1 (.slice a4 (j + 1) c4) (j + 1) (intC (fsL ts j) ++ [.int .i64 f]), blkP rb 78 #[.slice a1 j c1, .slice a2 j c2, .int .i64 (kp : Int), .int .i64 wy, .int .i64 0, .int .i64 99], blkP bN 2 (nowA L0)] ++ (wdL c { ndW 1 5 with ar := nkS (L0) } ++ [rowP 29 1 (.slice (some g9) 5 cp) 5 (intC (tolds 5))])) := H9
                have HH4 := Lib.hid H9
                clear H9 HH3
                have qs := al2_qs hi5 (HH4.out.blk 6 (b := rb) (t := 78) (c := #[.slice a1 j c1, .slice a2 j c2, .int .i64 (kp : Int), .int .i64 wy, .int .i64 0, .int .i64 99]) rfl) (HH4.out.row 12 (t := 29) (sz := 1) (n := 5) (v := .slice (some g9) 5 cp) (us := intC (tolds 5)) rfl) (HH4.out.blk 2 (b := bt) (t := 94) (c := #[.int .u8 d, .int .i8 kk]) rfl)
                refine hK9.out _ _ (fun _ => qs) ?_
                clear hK9 K9
                try simp only [Act.put, List.getElem_toArray, List.getElem_cons_zero, List.getElem_cons_succ, List.setIfInBounds_toArray, List.set_cons_zero, List.set_cons_succ]
                refine AnyK.phase (S' := fun _ => True) (ks' := []) (by kernel_rfl) ?_
                have B1 := HH4.out.blk 6 (b := rb) (t := 78) (c := #[.slice a1 j c1, .slice a2 j c2, .int .i64 (kp : Int), .int .i64 wy, .int .i64 0, .int .i64 99]) rfl
                have e10 := B1.cell 0
                have f10 := B1.froz 0
                have e11 := B1.cell 1
                have f11 := B1.froz 1
                clear B1
                have H9 := (HH4.out.setCell 6 rfl 0 (.slice a3 (j + 1) c3)).setCell 6 rfl 1 (.slice a4 (j + 1) c4)
                have H9 : Heap w _ ([blkP b7 2 #[.int .i64 f], blkP b3 29 #[.int .i64 (told i)], blkP bt 94 #[.int .u8 d, .int .i8 kk], rowP 3 1 (.slice ao2 (j + 1) co2) (j + 1) (intC ((onL ts j).map fun (i : Nat) => (i : Int)) ++ [.int .i64 (i : Int)]), rowP 29 1 (.slice a3 (j + 1) c3) (j + 1) (intC ((onL ts j).map told) ++ [.int .i64 (told i)]), rowP 2 1 (.slice a4 (j + 1) c4) (j + 1) (intC (fsL ts j) ++ [.int .i64 f]), blkP rb 78 #[.slice a3 (j + 1) c3, .slice a4 (j + 1) c4, .int .i64 (kp : Int), .int .i64 wy, .int .i64 0, .int .i64 99], blkP bN 2 (nowA L0)] ++ (wdL c { ndW 1 5 with ar := nkS (L0) } ++ [rowP 29 1 (.slice (some g9) 5 cp) 5 (intC (tolds 5))])) := H9
                have H9 := Lib.hid H9.tailP.tailP.tailP
                refine AnyK.one (i := 17) (by kernel_rfl) rfl (fun K9 hK9 => ?_)
                go_simp
                refine hK9.out _ _ (fun _ => trivial) ?_
                clear hK9 K9
                try simp only [Act.put, List.getElem_toArray, List.getElem_cons_zero, List.getElem_cons_succ, List.setIfInBounds_toArray, List.set_cons_zero, List.set_cons_succ]
                refine AnyK.take (i := 18) (v := ?_) rfl (by kernel_rfl) (by kernel_rfl) (by kernel_rfl) (by kernel_rfl) (fun _ _ _ h => h) (Or.inl ⟨by rfl, ?_⟩) (by exact trivial) ?_
                rotate_left
                focus
                  intro w9 hSw
                  try dsimp only at hSw
                  go_simp
                  try with_reducible rfl
                try simp only [Act.put, List.getElem_toArray, List.getElem_cons_zero, List.getElem_cons_succ, List.setIfInBounds_toArray, List.set_cons_zero, List.set_cons_succ]
                refine AnyK.one (i := 19) (by kernel_rfl) rfl (fun K9 hK9 => ?_)
                go_simp
                refine hK9.out _ _ (fun _ => trivial) ?_
                clear hK9 K9
                try simp only [Act.put, List.getElem_toArray, List.getElem_cons_zero, List.getElem_cons_succ, List.setIfInBounds_toArray, List.set_cons_zero, List.set_cons_succ]
                refine AnyK.done (by kernel_rfl) ?_ _
                refine NoPanic.normal ?_
                have HX := al2_next HI.out.1 HI.out.2.1 HI.out.2.2 H9.out
                clear H9
                go_wp2_with fail
                exact ⟨⟨j + 1, ao2, co2, by go_num, by omega, rfl, HX⟩, by simp [intOf]; omega⟩
            · go_simp
              have H9 := HZ.out.allocF 2 #[.int .i64 f]
              generalize z0.heap.size = b7 at H9 hK9 ⊢
              generalize z0.alloc (.cells #[.int .i64 f] 2) = x14 at H9 hK9 ⊢
              have H9 : Heap w x14 ([blkP b7 2 #[.int .i64 f], blkP bt 94 #[.int .u8 d, .int .i8 kk], rowP 3 1 (.slice ao2 (j + 1) co2) (j + 1) (intC ((onL ts j).map fun (i : Nat) => (i : Int)) ++ [.int .i64 (i : Int)]), rowP 29 1 (.slice a1 j c1) j (intC ((onL ts j).map told)), rowP 2 1 (.slice a2 j c2) j (intC (fsL ts j)), blkP rb 78 #[.slice a1 j c1, .slice a2 j c2, .int .i64 (kp : Int), .int .i64 wy, .int .i64 0, .int .i64 99], blkP bN 2 (nowA L0)] ++ (wdL c { ndW 1 5 with ar := nkS (L0) } ++ [rowP 29 1 (.slice (some g9) 5 cp) 5 (intC (tolds 5))])) := H9
              have HH1 := Lib.hid H9
              clear H9 HZ
              have qs := al2_qs hi5 (HH1.out.blk 5 (b := rb) (t := 78) (c := #[.slice a1 j c1, .slice a2 j c2, .int .i64 (kp : Int), .int .i64 wy, .int .i64 0, .int .i64 99]) rfl) (HH1.out.row 11 (t := 29) (sz := 1) (n := 5) (v := .slice (some g9) 5 cp) (us := intC (tolds 5)) rfl) (HH1.out.blk 1 (b := bt) (t := 94) (c := #[.int .u8 d, .int .i8 kk]) rfl)
              refine hK9.out _ _ (fun _ => qs) ?_
              clear hK9 K9
              try simp only [Act.put, List.getElem_toArray, List.getElem_cons_zero, List.getElem_cons_succ, List.setIfInBounds_toArray, List.set_cons_zero, List.set_cons_succ]
              refine AnyK.one (i := 6) (by kernel_rfl) rfl (fun K9 hK9 => ?_)
              go_simp
              have H9 := HH1.out.allocF 29 #[.int .i64 (told i)]
              generalize x14.heap.size = b3 at H9 hK9 ⊢
              generalize x14.alloc (.cells #[.int .i64 (told i)] 29) = x6 at H9 hK9 ⊢
              have H9 : Heap w x6 ([blkP b3 29 #[.int .i64 (told i)], blkP b7 2 #[.int .i64 f], blkP bt 94 #[.int .u8 d, .int .i8 kk], rowP 3 1 (.slice ao2 (j + 1) co2) (j + 1) (intC ((onL ts j).map fun (i : Nat) => (i : Int)) ++ [.int .i64 (i : Int)]), rowP 29 1 (.slice a1 j c1) j (intC ((onL ts j).map told)), rowP 2 1 (.slice a2 j c2) j (intC (fsL ts j)), blkP rb 78 #[.slice a1 j c1, .slice a2 j c2, .int .i64 (kp : Int), .int .i64 wy, .int .i64 0, .int .i64 99], blkP bN 2 (nowA L0)] ++ (wdL c { ndW 1 5 with ar := nkS (L0) } ++ [rowP 29 1 (.slice (some g9) 5 cp) 5 (intC (tolds 5))])) := H9
              have HH2 := Lib.hid H9
              clear H9 HH1
              have qs := al2_qs hi5 (HH2.out.blk 6 (b := rb) (t := 78) (c := #[.slice a1 j c1, .slice a2 j c2, .int .i64 (kp : Int), .int .i64 wy, .int .i64 0, .int .i64 99]) rfl) (HH2.out.row 12 (t := 29) (sz := 1) (n := 5) (v := .slice (some g9) 5 cp) (us := intC (tolds 5)) rfl) (HH2.out.blk 2 (b := bt) (t := 94) (c := #[.int .u8 d, .int .i8 kk]) rfl)
              refine hK9.out _ _ (fun _ => qs) ?_
              clear hK9 K9
              try simp only [Act.put, List.getElem_toArray, List.getElem_cons_zero, List.getElem_cons_succ, List.setIfInBounds_toArray, List.set_cons_zero, List.set_cons_succ]
              refine AnyK.one (i := 7) (by kernel_rfl) rfl (fun K9 hK9 => ?_)
              refine step_append_typed _ (by rfl) (.tmp 106) (.tmp 111) 50 (by rfl) 29 i0 _ 1 8 Try.underlying50 I0.out.1 I0.out.2.1 I0.out.2.2.1 I0.out.2.2.2 rfl (by decide) (.slice a1 j c1) j (intC ((onL ts j).map told)) (by simp [Act.eval]) (HH2.out.row 4 rfl) (.slice (some ⟨b3, 0, none⟩) 1 1) 1 [.int .i64 (told i)] (by simp [Act.eval]) (RdV.block (cs := #[.int .i64 (told i)]) (t := 29) (HH2.out.blk 0 rfl) rfl (by decide)) (fun u hu => by simp at hu; subst hu; rfl) HL.out.1 HL.out.2 ?_
              intro a3 c3 w3 q3 grow3 hat3
              have H9 := HH2.out.growRow 4 rfl (Fr.refl _ _) q3 grow3 (fun g hg => (hat3 g hg).resolve_left (fun h => absurd h.1 (by decide)))
              clear q3 grow3 hat3
              have H9 : Heap w w3 ([blkP b3 29 #[.int .i64 (told i)], blkP b7 2 #[.int .i64 f], blkP bt 94 #[.int .u8 d, .int .i8 kk], rowP 3 1 (.slice ao2 (j + 1) co2) (j + 1) (intC ((onL ts j).map fun (i : Nat) => (i : Int)) ++ [.int .i64 (i : Int)]), rowP 29 1 (.slice a3 (j + 1) c3) (j + 1) (intC ((onL ts j).map told) ++ [.int .i64 (told i)]), rowP 2 1 (.slice a2 j c2) j (intC (fsL ts j)), blkP rb 78 #[.slice a1 j c1, .slice a2 j c2, .int .i64 (kp : Int), .int .i64 wy, .int .i64 0, .int .i64 99], blkP bN 2 (nowA L0)] ++ (wdL c { ndW 1 5 with ar := nkS (L0) } ++ [rowP 29 1 (.slice (some g9) 5 cp) 5 (intC (tolds 5))])) := H9
              have HH3 := Lib.hid H9
              clear H9 HH2
              have qs := al2_qs hi5 (HH3.out.blk 6 (b := rb) (t := 78) (c := #[.slice a1 j c1, .slice a2 j c2, .int .i64 (kp : Int), .int .i64 wy, .int .i64 0, .int .i64 99]) rfl) (HH3.out.row 12 (t := 29) (sz := 1) (n := 5) (v := .slice (some g9) 5 cp) (us := intC (tolds 5)) rfl) (HH3.out.blk 2 (b := bt) (t := 94) (c := #[.int .u8 d, .int .i8 kk]) rfl)
              refine hK9.out _ _ (fun _ => qs) ?_
              clear hK9 K9
              try simp only [Act.put, List.getElem_toArray, List.getElem_cons_zero, List.getElem_cons_succ, List.setIfInBounds_toArray, List.set_cons_zero, List.set_cons_succ]
              have qs := al2_qs hi5 (HH3.out.blk 6 (b := rb) (t := 78) (c := #[.slice a1 j c1, .slice a2 j c2, .int .i64 (kp : Int), .int .i64 wy, .int .i64 0, .int .i64 99]) rfl) (HH3.out.row 12 (t := 29) (sz := 1) (n := 5) (v := .slice (some g9) 5 cp) (us := intC (tolds 5)) rfl) (HH3.out.blk 2 (b := bt) (t := 94) (c := #[.int .u8 d, .int .i8 kk]) rfl)
              refine AnyK.take (i := 16) (v := ?_) rfl (by kernel_rfl) (by kernel_rfl) (by kernel_rfl) (by kernel_rfl) (fun _ _ _ h => h) (Or.inl ⟨by rfl, ?_⟩) (by exact qs) ?_
              rotate_left
              focus
                intro w9 hSw
                try dsimp only at hSw
                go_simp
                try with_reducible rfl
              try simp only [Act.put, List.getElem_toArray, List.getElem_cons_zero, List.getElem_cons_succ, List.setIfInBounds_toArray, List.set_cons_zero, List.set_cons_succ]
              clear qs
              refine AnyK.one (i := 15) (by kernel_rfl) rfl (fun K9 hK9 => ?_)
              refine step_append_typed _ (by rfl) (.tmp 114) (.tmp 119) 35 (by rfl) 2 j0 _ 1 8 Try.underlying35 J0.out.1 J0.out.2.1 J0.out.2.2.1 J0.out.2.2.2 rfl (by decide) (.slice a2 j c2) j (intC (fsL ts j)) (by simp [Act.eval]) (HH3.out.row 5 rfl) (.slice (some ⟨b7, 0, none⟩) 1 1) 1 [.int .i64 f] (by simp [Act.eval]) (RdV.block (cs := #[.int .i64 f]) (t := 2) (HH3.out.blk 1 rfl) rfl (by decide)) (fun u hu => by simp at hu; subst hu; rfl) HL.out.1 HL.out.2 ?_
              intro a4 c4 w4 q4 grow4 hat4
              have H9 := HH3.out.growRow 5 rfl (Fr.refl _ _) q4 grow4 (fun g hg => (hat4 g hg).resolve_left (fun h => absurd h.1 (by decide)))
              clear q4 grow4 hat4
              have H9 : Heap w w4 ([blkP b3 29 #[.int .i64 (told i)], blkP b7 2 #[.int .i64 f], blkP bt 94 #[.int .u8 d, .int .i8 kk], rowP 3 1 (.slice ao2 (j + 1) co2) (j + 1) (intC ((onL ts j).map fun (i : Nat) => (i : Int)) ++ [.int .i64 (i : Int)]), rowP 29 1 (.slice a3 (j + 1) c3) (j + 1) (intC ((onL ts j).map told) ++ [.int .i64 (told i)]), rowP 2 1 (.slice a4 (j + 1) c4) (j + 1) (intC (fsL ts j) ++ [.int .i64 f]), blkP rb 78 #[.slice a1 j c1, .slice a2 j c2, .int .i64 (kp : Int), .int .i64 wy, .int .i64 0, .int .i64 99], blkP bN 2 (nowA L0)] ++ (wdL c { ndW 1 5 with ar := nkS (L0) } ++ [rowP 29 1 (.slice (some g9) 5 cp) 5 (intC (tolds 5))])) := H9
              have HH4 := Lib.hid H9
              clear H9 HH3
              have qs := al2_qs hi5 (HH4.out.blk 6 (b := rb) (t := 78) (c := #[.slice a1 j c1, .slice a2 j c2, .int .i64 (kp : Int), .int .i64 wy, .int .i64 0, .int .i64 99]) rfl) (HH4.out.row 12 (t := 29) (sz := 1) (n := 5) (v := .slice (some g9) 5 cp) (us := intC (tolds 5)) rfl) (HH4.out.blk 2 (b := bt) (t := 94) (c := #[.int .u8 d, .int .i8 kk]) rfl)
              refine hK9.out _ _ (fun _ => qs) ?_
              clear hK9 K9
              try simp only [Act.put, List.getElem_toArray, List.getElem_cons_zero, List.getElem_cons_succ, List.setIfInBounds_toArray, List.set_cons_zero, List.set_cons_succ]
              refine AnyK.phase (S' := fun _ => True) (ks' := []) (by kernel_rfl) ?_
              have B1 := HH4.out.blk 6 (b := rb) (t := 78) (c := #[.slice a1 j c1, .slice a2 j c2, .int .i64 (kp : Int), .int .i64 wy, .int .i64 0, .int .i64 99]) rfl
              have e10 := B1.cell 0
              have f10 := B1.froz 0
              have e11 := B1.cell 1
              have f11 := B1.froz 1
              clear B1
              have H9 := (HH4.out.setCell 6 rfl 0 (.slice a3 (j + 1) c3)).setCell 6 rfl 1 (.slice a4 (j + 1) c4)
              have H9 : Heap w _ ([blkP b3 29 #[.int .i64 (told i)], blkP b7 2 #[.int .i64 f], blkP bt 94 #[.int .u8 d, .int .i8 kk], rowP 3 1 (.slice ao2 (j + 1) co2) (j + 1) (intC ((onL ts j).map fun (i : Nat) => (i : Int)) ++ [.int .i64 (i : Int)]), rowP 29 1 (.slice a3 (j + 1) c3) (j + 1) (intC ((onL ts j).map told) ++ [.int .i64 (told i)]), rowP 2 1 (.slice a4 (j + 1) c4) (j + 1) (intC (fsL ts j) ++ [.int .i64 f]), blkP rb 78 #[.slice a3 (j + 1) c3, .slice a4 (j + 1) c4, .int .i64 (kp : Int), .int .i64 wy, .int .i64 0, .int .i64 99], blkP bN 2 (nowA L0)] ++ (wdL c { ndW 1 5 with ar := nkS (L0) } ++ [rowP 29 1 (.slice (some g9) 5 cp) 5 (intC (tolds 5))])) := H9
              have H9 := Lib.hid H9.tailP.tailP.tailP
              refine AnyK.one (i := 17) (by kernel_rfl) rfl (fun K9 hK9 => ?_)
              go_simp
              refine hK9.out _ _ (fun _ => trivial) ?_
              clear hK9 K9
              try simp only [Act.put, List.getElem_toArray, List.getElem_cons_zero, List.getElem_cons_succ, List.setIfInBounds_toArray, List.set_cons_zero, List.set_cons_succ]
              refine AnyK.take (i := 18) (v := ?_) rfl (by kernel_rfl) (by kernel_rfl) (by kernel_rfl) (by kernel_rfl) (fun _ _ _ h => h) (Or.inl ⟨by rfl, ?_⟩) (by exact trivial) ?_
              rotate_left
              focus
                intro w9 hSw
                try dsimp only at hSw
                go_simp
                try with_reducible rfl
              try simp only [Act.put, List.getElem_toArray, List.getElem_cons_zero, List.getElem_cons_succ, List.setIfInBounds_toArray, List.set_cons_zero, List.set_cons_succ]
              refine AnyK.one (i := 19) (by kernel_rfl) rfl (fun K9 hK9 => ?_)
              go_simp
              refine hK9.out _ _ (fun _ => trivial) ?_
              clear hK9 K9
              try simp only [Act.put, List.getElem_toArray, List.getElem_cons_zero, List.getElem_cons_succ, List.setIfInBounds_toArray, List.set_cons_zero, List.set_cons_succ]
              refine AnyK.done (by kernel_rfl) ?_ _
              refine NoPanic.normal ?_
              have HX := al2_next HI.out.1 HI.out.2.1 HI.out.2.2 H9.out
              clear H9
              go_wp2_with fail
              exact ⟨⟨j + 1, ao2, co2, by go_num, by omega, rfl, HX⟩, by simp [intOf]; omega⟩
        · have hjt : j = ts.length := by omega
          have HOF0 : Hid ((onL ts j).length = ts.length ∧ (fsL ts j).length = ts.length ∧ ∀ i ∈ onL ts j, i < 5) := Lib.hid ⟨by rw [hjt]; simp [onL], by rw [hjt]; simp [fsL], fun i hi => onL_lt (fun x hx => (HY1.out x hx).1.1) hi⟩
          subst hjt
          obtain ⟨on, hon⟩ : ∃ l, onL ts ts.length = l := ⟨_, rfl⟩
          obtain ⟨fs, hfs⟩ : ∃ l, fsL ts ts.length = l := ⟨_, rfl⟩
          rw [hon, hfs] at HOF0
          have HOF := HOF0
          obtain ⟨a1, c1, a2, c2, H0⟩ := HH.out
          rw [hon, hfs] at H0
          have HH3 : Hid (Heap w wr ([rowP 3 1 (.slice ao ts.length co) ts.length (intC (on.map fun (i : Nat) => (i : Int))), rowP 29 1 (.slice a1 ts.length c1) ts.length (intC (on.map told)), rowP 2 1 (.slice a2 ts.length c2) ts.length (intC fs), blkP rb 78 #[.slice a1 ts.length c1, .slice a2 ts.length c2, .int .i64 (kp : Int), .int .i64 wy, .int .i64 0, .int .i64 99], blkP bN 2 (nowA L0)] ++ (wdL c { ndW 1 5 with ar := nkS (L0) } ++ [rowP 29 1 (.slice a0 5 cp) 5 (intC (tolds 5))]))) := Lib.hid H0
          clear HH H0 hon hfs HOF0 hlt hj
          rename World => w6
          go_upto_region 22 with fail
          go_cut [126] from 124 to 126 (fun s126 wx => s126 = .bool (decide (0 < ts.length)) ∧ Hid (Heap w wx ([rowP 3 1 (.slice ao ts.length co) ts.length (intC (on.map fun (i : Nat) => (i : Int))), rowP 29 1 (.slice a1 ts.length c1) ts.length (intC (on.map told)), rowP 2 1 (.slice a2 ts.length c2) ts.length (intC fs), blkP rb 78 #[.slice a1 ts.length c1, .slice a2 ts.length c2, .int .i64 (kp : Int), .int .i64 wy, .int .i64 0, .int .i64 99], blkP bN 2 (nowA L0)] ++ (wdL c { ndW 1 5 with ar := nkS (L0) } ++ [rowP 29 1 (.slice a0 5 cp) 5 (intC (tolds 5))]))))
          case first =>
            go_wp2_with fail
            go_meet
            exact ⟨rfl, HH3⟩
          case rest =>
          obtain ⟨rfl, HH3⟩ := hcut
          rename World => w6b
          rename ∀ (a : Act) (w : World), Code.wp Try.prog _ _ a w → _ => hK8
          refine hK8 _ _ ?_
          clear hK8
          go_cut [] from 124 to 136 (fun wx => ∃ ov, Hid (Heap w wx ([rowP 3 1 (.slice ao ts.length co) ts.length (intC (on.map fun (i : Nat) => (i : Int))), rowP 29 1 (.slice a1 ts.length c1) ts.length (intC (on.map told)), rowP 2 1 (.slice a2 ts.length c2) ts.length (intC fs), blkP rb 78 #[.slice a1 ts.length c1, .slice a2 ts.length c2, .int .i64 (kp : Int), .int .i64 wy, .int .i64 ov, .int .i64 99], blkP bN 2 (nowA L0)] ++ (wdL c { ndW 1 5 with ar := nkS (L0) } ++ [rowP 29 1 (.slice a0 5 cp) 5 (intC (tolds 5))]))))
          case first =>
            by_cases hn0 : ts.length = 0
            · have hng : ¬ 0 < ts.length := by omega
              clear hn0
              go_wp2_with fail
              go_meet
              exact ⟨0, HH3⟩
            · have hng : 0 < ts.length := by omega
              obtain ⟨i1, hi1⟩ : ∃ i, on[0]? = some i := ⟨_, List.getElem?_eq_getElem (by have := HOF.out.1; omega)⟩
              obtain ⟨go9, ee, hcc, hat⟩ := (HH3.out.row 0 (t := 3) (sz := 1) (n := ts.length) (v := .slice ao ts.length co) (us := intC (on.map fun (i : Nat) => (i : Int))) rfl).rdv.at (by omega)
              have ee : ao = some go9 := by simpa using ee
              subst ee
              have y1 : World.cell? _ go9 = some (.int .i64 (i1 : Int)) := hat 0 _ (by simp [intC, hi1])
              have B := HH3.out.blk 3 (b := rb) (t := 78) (c := #[.slice a1 ts.length c1, .slice a2 ts.length c2, .int .i64 (kp : Int), .int .i64 wy, .int .i64 0, .int .i64 99]) rfl
              have e4 := B.cell 4
              have f4 := B.froz 4
              have hi15 : i1 < 5 := HOF.out.2.2 i1 (List.mem_of_getElem? hi1)
              have H1 : Hid (Heap w (w6b.setCell ⟨rb, 4, none⟩ (.int .i64 (200 + 10 * (i1 : Int) + old0 % 3))) ([rowP 3 1 (.slice (some go9) ts.length co) ts.length (intC (on.map fun (i : Nat) => (i : Int))), rowP 29 1 (.slice a1 ts.length c1) ts.length (intC (on.map told)), rowP 2 1 (.slice a2 ts.length c2) ts.length (intC fs), blkP rb 78 #[.slice a1 ts.length c1, .slice a2 ts.length c2, .int .i64 (kp : Int), .int .i64 wy, .int .i64 (200 + 10 * (i1 : Int) + old0 % 3), .int .i64 99], blkP bN 2 (nowA L0)] ++ (wdL c { ndW 1 5 with ar := nkS (L0) } ++ [rowP 29 1 (.slice a0 5 cp) 5 (intC (tolds 5))]))) := Lib.hid (HH3.out.setCell 3 rfl 4 (.int .i64 (200 + 10 * (i1 : Int) + old0 % 3)))
              clear hat hcc B HH3
              go_wp2_with fail
              go_meet
              exact ⟨200 + 10 * (i1 : Int) + old0 % 3, H1⟩
          case rest =>
          obtain ⟨ov, HH⟩ := hcut
          clear HH3
          rename World => w7
          have HZ := HH.out.drew
          have q0 : World.cell? w7.drew ⟨c.wb, 1, none⟩ = some (.pointer (some ⟨c.rb, 0, none⟩)) ∧ World.cell? w7.drew ⟨rb, 0, none⟩ = some (.slice a1 ts.length c1) ∧ World.cell? w7.drew ⟨rb, 1, none⟩ = some (.slice a2 ts.length c2) ∧ World.cell? w7.drew ⟨rb, 2, none⟩ = some (.int .i64 (kp : Int)) ∧ World.cell? w7.drew ⟨rb, 3, none⟩ = some (.int .i64 wy) ∧ World.cell? w7.drew ⟨rb, 4, none⟩ = some (.int .i64 ov) ∧ World.cell? w7.drew ⟨rb, 5, none⟩ = some (.int .i64 99) := ⟨(wdL_cells HZ.swapF).2.1, (HZ.blk 3 (b := rb) (t := 78) (c := #[.slice a1 ts.length c1, .slice a2 ts.length c2, .int .i64 (kp : Int), .int .i64 wy, .int .i64 ov, .int .i64 99]) rfl).cell 0, (HZ.blk 3 (b := rb) (t := 78) (c := #[.slice a1 ts.length c1, .slice a2 ts.length c2, .int .i64 (kp : Int), .int .i64 wy, .int .i64 ov, .int .i64 99]) rfl).cell 1, (HZ.blk 3 (b := rb) (t := 78) (c := #[.slice a1 ts.length c1, .slice a2 ts.length c2, .int .i64 (kp : Int), .int .i64 wy, .int .i64 ov, .int .i64 99]) rfl).cell 2, (HZ.blk 3 (b := rb) (t := 78) (c := #[.slice a1 ts.length c1, .slice a2 ts.length c2, .int .i64 (kp : Int), .int .i64 wy, .int .i64 ov, .int .i64 99]) rfl).cell 3, (HZ.blk 3 (b := rb) (t := 78) (c := #[.slice a1 ts.length c1, .slice a2 ts.length c2, .int .i64 (kp : Int), .int .i64 wy, .int .i64 ov, .int .i64 99]) rfl).cell 4, (HZ.blk 3 (b := rb) (t := 78) (c := #[.slice a1 ts.length c1, .slice a2 ts.length c2, .int .i64 (kp : Int), .int .i64 wy, .int .i64 ov, .int .i64 99]) rfl).cell 5⟩
          have lon := HOF.out.1
          have lfs := HOF.out.2.1
          have C := Make_h HZ 7 rfl (alR on fs (kp : Int) wy ov) (.slice a1 ts.length c1) (.slice a2 ts.length c2) (by
            show RdV _ _ (on.map told).length 1 _
            rw [List.length_map, lon]
            exact (HZ.row 1 rfl).rdv) (by
            show RdV _ _ fs.length 1 _
            rw [lfs]
            exact (HZ.row 2 rfl).rdv) (by show (on.map told).length ≤ 1000000; rw [List.length_map]; omega) (by show fs.length ≤ 1000000; omega)
          have hmk : makeRt (alR on fs (kp : Int) wy ov) ({ ndW 1 5 with ar := nkS (L0) } : Wd).rt = ((1, true), (alW (alR on fs (kp : Int) wy ov) (ndW 1 5).ep L0 1 false).rt) := by
            unfold makeRt
            rw [if_pos ⟨by show (on.map told).length = fs.length; rw [List.length_map, lon, lfs], by show (0 : Int) ≤ (kp : Int); omega, by show ((0 : Nat) : Int) < 40; omega⟩]
            rfl
          rw [hmk] at C
          have C := Lib.hid C
          clear HZ hmk lon lfs HH
          go_upto_region 24 with fail
          go_cut [23] from 137 to 145 (fun s23 wx => s23 = .int .i64 1 ∧ Hid (Heap w wx ([rowP 3 1 (.slice ao ts.length co) ts.length (intC (on.map fun (i : Nat) => (i : Int))), rowP 29 1 (.slice a1 ts.length c1) ts.length (intC (on.map told)), rowP 2 1 (.slice a2 ts.length c2) ts.length (intC fs), blkP rb 78 #[.slice a1 ts.length c1, .slice a2 ts.length c2, .int .i64 (kp : Int), .int .i64 wy, .int .i64 ov, .int .i64 99], blkP bN 2 (nowA L0)] ++ (wdL c (alW (alR on fs (kp : Int) wy ov) (ndW 1 5).ep L0 1 false) ++ [rowP 29 1 (.slice a0 5 cp) 5 (intC (tolds 5))]))))
          case first =>
            as_aux_lemma =>
              refine wp_region_noPanic ?_
              refine AnyK.start (ks := [5, 6, 7, 8, 9, 10]) (S := fun w' => w'.cell? ⟨c.wb, 1, none⟩ = some (.pointer (some ⟨c.rb, 0, none⟩)) ∧ w'.cell? ⟨rb, 0, none⟩ = some (.slice a1 ts.length c1) ∧ w'.cell? ⟨rb, 1, none⟩ = some (.slice a2 ts.length c2) ∧ w'.cell? ⟨rb, 2, none⟩ = some (.int .i64 (kp : Int)) ∧ w'.cell? ⟨rb, 3, none⟩ = some (.int .i64 wy) ∧ w'.cell? ⟨rb, 4, none⟩ = some (.int .i64 ov) ∧ w'.cell? ⟨rb, 5, none⟩ = some (.int .i64 99)) (by kernel_rfl) (by exact q0) (fun _ => ?_)
              refine AnyK.takeB (i := 0) (v := ?_) rfl (by kernel_rfl) (by kernel_rfl) (by kernel_rfl) (by kernel_rfl) (fun _ _ _ h => h) (Or.inl ⟨by rfl, ?_⟩) (by exact q0) ?_
              rotate_left
              focus
                intro w9 hSw
                try dsimp only at hSw
                go_simp
                try with_reducible rfl
              try simp only [Act.put, List.getElem_toArray, List.getElem_cons_zero, List.getElem_cons_succ, List.setIfInBounds_toArray, List.set_cons_zero, List.set_cons_succ]
              refine AnyK.takeB (i := 1) (v := ?_) rfl (by kernel_rfl) (by kernel_rfl) (by kernel_rfl) (by kernel_rfl) (fun _ _ _ h => h) (Or.inl ⟨by rfl, ?_⟩) (by exact q0) ?_
              rotate_left
              focus
                intro w9 hSw
                try dsimp only at hSw
                go_simp
                try with_reducible rfl
              try simp only [Act.put, List.getElem_toArray, List.getElem_cons_zero, List.getElem_cons_succ, List.setIfInBounds_toArray, List.set_cons_zero, List.set_cons_succ]
              refine AnyK.takeB (i := 2) (v := ?_) rfl (by kernel_rfl) (by kernel_rfl) (by kernel_rfl) (by kernel_rfl) (fun _ _ _ h => h) (Or.inl ⟨by rfl, ?_⟩) (by exact q0) ?_
              rotate_left
              focus
                intro w9 hSw
                try dsimp only at hSw
                go_simp
                try with_reducible rfl
              try simp only [Act.put, List.getElem_toArray, List.getElem_cons_zero, List.getElem_cons_succ, List.setIfInBounds_toArray, List.set_cons_zero, List.set_cons_succ]
              refine AnyK.takeB (i := 3) (v := ?_) rfl (by kernel_rfl) (by kernel_rfl) (by kernel_rfl) (by kernel_rfl) (fun _ _ _ h => h) (Or.inl ⟨by rfl, ?_⟩) (by exact q0) ?_
              rotate_left
              focus
                intro w9 hSw
                try dsimp only at hSw
                go_simp
                try with_reducible rfl
              try simp only [Act.put, List.getElem_toArray, List.getElem_cons_zero, List.getElem_cons_succ, List.setIfInBounds_toArray, List.set_cons_zero, List.set_cons_succ]
              refine AnyK.takeB (i := 4) (v := ?_) rfl (by kernel_rfl) (by kernel_rfl) (by kernel_rfl) (by kernel_rfl) (fun _ _ _ h => h) (Or.inl ⟨by rfl, ?_⟩) (by exact q0) ?_
              rotate_left
              focus
                intro w9 hSw
                try dsimp only at hSw
                go_simp
                try with_reducible rfl
              try simp only [Act.put, List.getElem_toArray, List.getElem_cons_zero, List.getElem_cons_succ, List.setIfInBounds_toArray, List.set_cons_zero, List.set_cons_succ]
              refine AnyK.one (i := 5) (by kernel_rfl) rfl (fun K9 hK9 => ?_)
              go_simp
              refine C.out.mono ?_
              rintro e y9 ⟨rfl, H9⟩
              have H9 := Lib.hid H9
              refine hK9.out _ _ (fun hx => absurd (by decide) hx) ?_
              clear hK9 K9
              try simp only [Act.put, List.getElem_toArray, List.getElem_cons_zero, List.getElem_cons_succ, List.setIfInBounds_toArray, List.set_cons_zero, List.set_cons_succ]
              refine AnyK.phase (S' := fun _ => True) (ks' := []) (by kernel_rfl) ?_
              refine AnyK.take (i := 6) (v := ?_) rfl (by kernel_rfl) (by kernel_rfl) (by kernel_rfl) (by kernel_rfl) (fun _ _ _ h => h) (Or.inl ⟨by rfl, ?_⟩) (by exact trivial) ?_
              rotate_left
              focus
                intro w9 hSw
                try dsimp only at hSw
                go_simp
                try with_reducible rfl
              try simp only [Act.put, List.getElem_toArray, List.getElem_cons_zero, List.getElem_cons_succ, List.setIfInBounds_toArray, List.set_cons_zero, List.set_cons_succ]
              refine AnyK.take (i := 7) (v := ?_) rfl (by kernel_rfl) (by kernel_rfl) (by kernel_rfl) (by kernel_rfl) (fun _ _ _ h => h) (Or.inl ⟨by rfl, ?_⟩) (by exact trivial) ?_
              rotate_left
              focus
                intro w9 hSw
                try dsimp only at hSw
                go_simp
                try with_reducible rfl
              try simp only [Act.put, List.getElem_toArray, List.getElem_cons_zero, List.getElem_cons_succ, List.setIfInBounds_toArray, List.set_cons_zero, List.set_cons_succ]
              refine AnyK.take (i := 8) (v := ?_) rfl (by kernel_rfl) (by kernel_rfl) (by kernel_rfl) (by kernel_rfl) (fun _ _ _ h => h) (Or.inl ⟨by rfl, ?_⟩) (by exact trivial) ?_
              rotate_left
              focus
                intro w9 hSw
                try dsimp only at hSw
                go_simp
                try with_reducible rfl
              try simp only [Act.put, List.getElem_toArray, List.getElem_cons_zero, List.getElem_cons_succ, List.setIfInBounds_toArray, List.set_cons_zero, List.set_cons_succ]
              refine AnyK.take (i := 9) (v := ?_) rfl (by kernel_rfl) (by kernel_rfl) (by kernel_rfl) (by kernel_rfl) (fun _ _ _ h => h) (Or.inl ⟨by rfl, ?_⟩) (by exact trivial) ?_
              rotate_left
              focus
                intro w9 hSw
                try dsimp only at hSw
                go_simp
                try with_reducible rfl
              try simp only [Act.put, List.getElem_toArray, List.getElem_cons_zero, List.getElem_cons_succ, List.setIfInBounds_toArray, List.set_cons_zero, List.set_cons_succ]
              refine AnyK.take (i := 10) (v := ?_) rfl (by kernel_rfl) (by kernel_rfl) (by kernel_rfl) (by kernel_rfl) (fun _ _ _ h => h) (Or.inl ⟨by rfl, ?_⟩) (by exact trivial) ?_
              rotate_left
              focus
                intro w9 hSw
                try dsimp only at hSw
                go_simp
                try with_reducible rfl
              try simp only [Act.put, List.getElem_toArray, List.getElem_cons_zero, List.getElem_cons_succ, List.setIfInBounds_toArray, List.set_cons_zero, List.set_cons_succ]
              refine AnyK.done (by kernel_rfl) ?_ _
              refine NoPanic.normal ?_
              go_wp2_with fail
              go_meet
              exact ⟨rfl, H9⟩
          case rest =>
          obtain ⟨rfl, HH⟩ := hcut
          clear q0 C
          rename World => w8
          go_upto_region 25 with fail
          go_cut [146] from 146 to 146 (fun s146 wx => s146 = .bool all ∧ Hid (Heap w wx ([rowP 3 1 (.slice ao ts.length co) ts.length (intC (on.map fun (i : Nat) => (i : Int))), rowP 29 1 (.slice a1 ts.length c1) ts.length (intC (on.map told)), rowP 2 1 (.slice a2 ts.length c2) ts.length (intC fs), blkP rb 78 #[.slice a1 ts.length c1, .slice a2 ts.length c2, .int .i64 (kp : Int), .int .i64 wy, .int .i64 ov, .int .i64 99], blkP bN 2 (nowA L0)] ++ (wdL c (alW (alR on fs (kp : Int) wy ov) (ndW 1 5).ep L0 1 false) ++ [rowP 29 1 (.slice a0 5 cp) 5 (intC (tolds 5))]))))
          case first =>
            go_wp2_with fail
            go_meet
            exact ⟨rfl, HH⟩
          case rest =>
          obtain ⟨rfl, HH⟩ := hcut
          rename World => w8b
          rename ∀ (a : Act) (w : World), Code.wp Try.prog _ _ a w → _ => hK8
          refine hK8 _ _ ?_
          clear hK8
          go_cut [] from 147 to 152 (fun wx => Hid (Heap w wx ([rowP 3 1 (.slice ao ts.length co) ts.length (intC (on.map fun (i : Nat) => (i : Int))), rowP 29 1 (.slice a1 ts.length c1) ts.length (intC (on.map told)), rowP 2 1 (.slice a2 ts.length c2) ts.length (intC fs), blkP rb 78 #[.slice a1 ts.length c1, .slice a2 ts.length c2, .int .i64 (kp : Int), .int .i64 wy, .int .i64 ov, .int .i64 99], blkP bN 2 (nowA L0)] ++ (wdL c (alW (alR on fs (kp : Int) wy ov) (ndW 1 5).ep L0 1 all) ++ [rowP 29 1 (.slice a0 5 cp) 5 (intC (tolds 5))]))))
          case first =>
            cases all with
            | false =>
              go_wp2_with fail
              go_meet
              exact HH
            | true =>
              obtain ⟨v0, v1, v2, v3, v4, v5⟩ := wdL_cells HH.out.swapF
              have CA := Lib.hid (SetAll_h HH.out 7 rfl 1)
              go_wp2_with fail
              refine CA.out.mono ?_
              rintro e z9 ⟨rfl, H9⟩
              have HX : Hid (Heap w z9 ([rowP 3 1 (.slice ao ts.length co) ts.length (intC (on.map fun (i : Nat) => (i : Int))), rowP 29 1 (.slice a1 ts.length c1) ts.length (intC (on.map told)), rowP 2 1 (.slice a2 ts.length c2) ts.length (intC fs), blkP rb 78 #[.slice a1 ts.length c1, .slice a2 ts.length c2, .int .i64 (kp : Int), .int .i64 wy, .int .i64 ov, .int .i64 99], blkP bN 2 (nowA L0)] ++ (wdL c (alW (alR on fs (kp : Int) wy ov) (ndW 1 5).ep L0 1 true) ++ [rowP 29 1 (.slice a0 5 cp) 5 (intC (tolds 5))]))) := Lib.hid H9
              clear CA H9
              go_wp2_with fail
              go_meet
              exact HX
          case rest =>
          have HH5 := hcut
          clear hcut HH
          rename World => w9
          have hmk : ∀ w, (Instr.makeSlice 96 (.int .i64 5) (.int .i64 5)).run Try.prog w = .ok (.slice (some ⟨w.heap.size, 0, none⟩) 5 5) (w.alloc (.cells #[.bool false, .bool false, .bool false, .bool false, .bool false] 4)) := fun _ => by kernel_rfl
          have H9 : Heap w (w9.drew.alloc (.cells #[.bool false, .bool false, .bool false, .bool false, .bool false] 4)) (blkP w9.drew.heap.size 4 (mrkA L0) :: ([rowP 3 1 (.slice ao ts.length co) ts.length (intC (on.map fun (i : Nat) => (i : Int))), rowP 29 1 (.slice a1 ts.length c1) ts.length (intC (on.map told)), rowP 2 1 (.slice a2 ts.length c2) ts.length (intC fs), blkP rb 78 #[.slice a1 ts.length c1, .slice a2 ts.length c2, .int .i64 (kp : Int), .int .i64 wy, .int .i64 ov, .int .i64 99], blkP bN 2 (nowA L0)] ++ (wdL c (alW (alR on fs (kp : Int) wy ov) (ndW 1 5).ep L0 1 all) ++ [rowP 29 1 (.slice a0 5 cp) 5 (intC (tolds 5))]))) := by
            rw [← mrk_false HL0.out.1 (fun i hi => (HL0.out.2 i hi).2.2)]
            exact HH5.out.drew.allocF 4 #[.bool false, .bool false, .bool false, .bool false, .bool false]
          have H9 := Lib.hid H9
          go_upto_region 27 with fail
          go_cut [25, 26, 27, 28, 29] from 153 to 153 (fun s25 s26 s27 s28 s29 wx => s25 = .int .i64 0 ∧ s26 = .int .u8 2 ∧ s27 = .bool true ∧ s29 = .bool false ∧ ∃ bM, s28 = .slice (some ⟨bM, 0, none⟩) 5 5 ∧ Hid (Heap w wx (blkP bM 4 (mrkA L0) :: ([rowP 3 1 (.slice ao ts.length co) ts.length (intC (on.map fun (i : Nat) => (i : Int))), rowP 29 1 (.slice a1 ts.length c1) ts.length (intC (on.map told)), rowP 2 1 (.slice a2 ts.length c2) ts.length (intC fs), blkP rb 78 #[.slice a1 ts.length c1, .slice a2 ts.length c2, .int .i64 (kp : Int), .int .i64 wy, .int .i64 ov, .int .i64 99], blkP bN 2 (nowA L0)] ++ (wdL c (alW (alR on fs (kp : Int) wy ov) (ndW 1 5).ep L0 1 all) ++ [rowP 29 1 (.slice a0 5 cp) 5 (intC (tolds 5))])))))
          case first =>
            as_aux_lemma =>
              refine wp_region_noPanic ?_
              refine AnyK.start (ks := []) (S := fun w' => True) (by kernel_rfl) (by exact trivial) (fun _ => ?_)
              refine AnyK.take (i := 1) (v := ?_) rfl (by kernel_rfl) (by kernel_rfl) (by kernel_rfl) (by kernel_rfl) (fun _ _ _ h => h) (Or.inl ⟨by rfl, ?_⟩) (by exact trivial) ?_
              rotate_left
              focus
                intro w9 hSw
                try dsimp only at hSw
                go_simp
                try with_reducible rfl
              try simp only [Act.put, List.getElem_toArray, List.getElem_cons_zero, List.getElem_cons_succ, List.setIfInBounds_toArray, List.set_cons_zero, List.set_cons_succ]
              refine AnyK.take (i := 2) (v := ?_) rfl (by kernel_rfl) (by kernel_rfl) (by kernel_rfl) (by kernel_rfl) (fun _ _ _ h => h) (Or.inl ⟨by rfl, ?_⟩) (by exact trivial) ?_
              rotate_left
              focus
                intro w9 hSw
                try dsimp only at hSw
                go_simp
                try with_reducible rfl
              try simp only [Act.put, List.getElem_toArray, List.getElem_cons_zero, List.getElem_cons_succ, List.setIfInBounds_toArray, List.set_cons_zero, List.set_cons_succ]
              refine AnyK.take (i := 3) (v := ?_) rfl (by kernel_rfl) (by kernel_rfl) (by kernel_rfl) (by kernel_rfl) (fun _ _ _ h => h) (Or.inl ⟨by rfl, ?_⟩) (by exact trivial) ?_
              rotate_left
              focus
                intro w9 hSw
                try dsimp only at hSw
                go_simp
                try with_reducible rfl
              try simp only [Act.put, List.getElem_toArray, List.getElem_cons_zero, List.getElem_cons_succ, List.setIfInBounds_toArray, List.set_cons_zero, List.set_cons_succ]
              refine AnyK.one (i := 0) (by kernel_rfl) rfl (fun K9 hK9 => ?_)
              go_simp
              refine hK9.out _ _ (fun _ => trivial) ?_
              clear hK9 K9
              try simp only [Act.put, List.getElem_toArray, List.getElem_cons_zero, List.getElem_cons_succ, List.setIfInBounds_toArray, List.set_cons_zero, List.set_cons_succ]
              refine AnyK.take (i := 4) (v := ?_) rfl (by kernel_rfl) (by kernel_rfl) (by kernel_rfl) (by kernel_rfl) (fun _ _ _ h => h) (Or.inl ⟨by rfl, ?_⟩) (by exact trivial) ?_
              rotate_left
              focus
                intro w9 hSw
                try dsimp only at hSw
                go_simp
                try with_reducible rfl
              try simp only [Act.put, List.getElem_toArray, List.getElem_cons_zero, List.getElem_cons_succ, List.setIfInBounds_toArray, List.set_cons_zero, List.set_cons_succ]
              refine AnyK.take (i := 5) (v := ?_) rfl (by kernel_rfl) (by kernel_rfl) (by kernel_rfl) (by kernel_rfl) (fun _ _ _ h => h) (Or.inl ⟨by rfl, ?_⟩) (by exact trivial) ?_
              rotate_left
              focus
                intro w9 hSw
                try dsimp only at hSw
                go_simp
                try with_reducible rfl
              try simp only [Act.put, List.getElem_toArray, List.getElem_cons_zero, List.getElem_cons_succ, List.setIfInBounds_toArray, List.set_cons_zero, List.set_cons_succ]
              refine AnyK.done (by kernel_rfl) ?_ _
              refine NoPanic.normal ?_
              go_wp2_with fail
              go_meet
              exact ⟨rfl, rfl, rfl, rfl, ⟨_, rfl, H9⟩⟩
          case rest =>
          obtain ⟨rfl, rfl, rfl, rfl, bM, rfl, HH⟩ := hcut
          clear H9 HH5 hmk
          rename World => w10
          go_upto_region 28 with fail
          go_cut [154, 155, 156] from 154 to 156 (fun s154 s155 s156 wx => s154 = .slice ao ts.length co ∧ s155 = .int .i64 (ts.length : Int) ∧ s156 = .int .i64 0 ∧ Hid (Heap w wx (blkP bM 4 (mrkA L0) :: [rowP 3 1 (.slice ao ts.length co) ts.length (intC (on.map fun (i : Nat) => (i : Int))), rowP 29 1 (.slice a1 ts.length c1) ts.length (intC (on.map told)), rowP 2 1 (.slice a2 ts.length c2) ts.length (intC fs), blkP rb 78 #[.slice a1 ts.length c1, .slice a2 ts.length c2, .int .i64 (kp : Int), .int .i64 wy, .int .i64 ov, .int .i64 99], blkP bN 2 (nowA L0)] ++ (wdL c (alW (alR on fs (kp : Int) wy ov) (ndW 1 5).ep L0 1 all) ++ [rowP 29 1 (.slice a0 5 cp) 5 (intC (tolds 5))]))))
          case first =>
            go_wp2_with fail
            go_meet
            exact ⟨rfl, rfl, rfl, HH⟩
          case rest =>
          obtain ⟨rfl, rfl, rfl, HH⟩ := hcut
          rename World => w11
          rename ∀ (a : Act) (w : World), Code.wp Try.prog _ _ a w → _ => hK8
          refine hK8 _ _ ?_
          clear hK8
          go_cut [25, 26, 27, 29] from 156 to 192 (fun s25 s26 s27 s29 wx => ∃ (t : Nat) (sb : Bool) (st : Int) (dn : Bool) (Lk : List Nk), s25 = .int .i64 (t : Int) ∧ s26 = .int .u8 st ∧ s27 = .bool dn ∧ s29 = .bool sb ∧ Hid ((hI all (on.zip fs) L0 = (t, sb, Lk)) ∧ t ≤ 20 ∧ Lk.length = 5 ∧ st = (if sb = true then (if all = true then 1 else 0) else 2) ∧ dn = (if sb = true then all else true) ∧ Heap w wx (blkP bM 4 (mrkA L0) :: [rowP 3 1 (.slice ao ts.length co) ts.length (intC (on.map fun (i : Nat) => (i : Int))), rowP 29 1 (.slice a1 ts.length c1) ts.length (intC (on.map told)), rowP 2 1 (.slice a2 ts.length c2) ts.length (intC fs), blkP rb 78 #[.slice a1 ts.length c1, .slice a2 ts.length c2, .int .i64 (kp : Int), .int .i64 wy, .int .i64 ov, .int .i64 99], blkP bN 2 (nowA Lk)] ++ (wdL c (alW (alR on fs (kp : Int) wy ov) (ndW 1 5).ep L0 1 all) ++ [rowP 29 1 (.slice a0 5 cp) 5 (intC (tolds 5))]))))
          case first =>
            have HI0 : Hid ((hI all (on.zip fs) L0 = ((hI all ((on.zip fs).drop 0) L0).1 + 0, (hI all ((on.zip fs).drop 0) L0).2)) ∧ 0 ≤ 2 * 0 ∧ L0.length = 5 ∧ Heap w w11 (blkP bM 4 (mrkA L0) :: [rowP 3 1 (.slice ao ts.length co) ts.length (intC (on.map fun (i : Nat) => (i : Int))), rowP 29 1 (.slice a1 ts.length c1) ts.length (intC (on.map told)), rowP 2 1 (.slice a2 ts.length c2) ts.length (intC fs), blkP rb 78 #[.slice a1 ts.length c1, .slice a2 ts.length c2, .int .i64 (kp : Int), .int .i64 wy, .int .i64 ov, .int .i64 99], blkP bN 2 (nowA L0)] ++ (wdL c (alW (alR on fs (kp : Int) wy ov) (ndW 1 5).ep L0 1 all) ++ [rowP 29 1 (.slice a0 5 cp) 5 (intC (tolds 5))]))) := Lib.hid ⟨by simp, Nat.le_refl _, HL0.out.1, HH.out⟩
            clear HH
            go_wp2_with fail
            go_loopw [25, 26, 27, 29, 156] (fun s25 s26 s27 s29 i wr => ∃ (k t : Nat) (Lk : List Nk), i = .int .i64 (k : Nat) ∧ k ≤ ts.length ∧ s25 = .int .i64 (t : Int) ∧ s26 = .int .u8 2 ∧ s27 = .bool true ∧ s29 = .bool false ∧ Hid ((hI all (on.zip fs) L0 = ((hI all ((on.zip fs).drop k) Lk).1 + t, (hI all ((on.zip fs).drop k) Lk).2)) ∧ t ≤ 2 * k ∧ Lk.length = 5 ∧ Heap w wr (blkP bM 4 (mrkA L0) :: [rowP 3 1 (.slice ao ts.length co) ts.length (intC (on.map fun (i : Nat) => (i : Int))), rowP 29 1 (.slice a1 ts.length c1) ts.length (intC (on.map told)), rowP 2 1 (.slice a2 ts.length c2) ts.length (intC fs), blkP rb 78 #[.slice a1 ts.length c1, .slice a2 ts.length c2, .int .i64 (kp : Int), .int .i64 wy, .int .i64 ov, .int .i64 99], blkP bN 2 (nowA Lk)] ++ (wdL c (alW (alR on fs (kp : Int) wy ov) (ndW 1 5).ep L0 1 all) ++ [rowP 29 1 (.slice a0 5 cp) 5 (intC (tolds 5))])))) (fun _ _ _ _ i _ => ts.length - (intOf i).toNat)
            case atStart => exact ⟨0, 0, L0, rfl, Nat.zero_le _, rfl, rfl, rfl, rfl, HI0⟩
            case round =>
            clear HI0
            obtain ⟨k, t, Lk, rfl, hk, rfl, rfl, rfl, rfl, HI⟩ := hrel
            by_cases hlt : k < ts.length
            · obtain ⟨hI1, ht2, hLk, H0⟩ := HI.out
              clear HI
              obtain ⟨i, hi⟩ : ∃ i, on[k]? = some i := ⟨_, List.getElem?_eq_getElem (by have := HOF.out.1; omega)⟩
              obtain ⟨f, hf⟩ : ∃ i, fs[k]? = some i := ⟨_, List.getElem?_eq_getElem (by have := HOF.out.2.1; omega)⟩
              have hi5 : i < 5 := HOF.out.2.2 i (List.mem_of_getElem? hi)
              have hii : (i : Int) < 5 := by omega
              have hdr : (on.zip fs).drop k = (i, f) :: (on.zip fs).drop (k + 1) := zip_dropA hi hf
              rw [hdr] at hI1
              have HII := Lib.hid hI1
              obtain ⟨go9, ee, hcc, hat⟩ := (H0.row 1 (t := 3) (sz := 1) (n := ts.length) (v := .slice ao ts.length co) (us := intC (on.map fun (i : Nat) => (i : Int))) rfl).rdv.at (by omega)
              have ee : ao = some go9 := by simpa using ee
              obtain ⟨gf, ef, hcf, haf⟩ := (H0.row 3 (t := 2) (sz := 1) (n := ts.length) (v := .slice a2 ts.length c2) (us := intC fs) rfl).rdv.at (by omega)
              have ef : a2 = some gf := by simpa using ef
              subst ee ef
              have y1 : World.cell? _ (go9.add k) = some (.int .i64 (i : Int)) := hat k _ (by simp [intC, hi])
              have HH0 := Lib.hid H0
              obtain ⟨v, hv⟩ : ∃ v, (Lk.getD i nk0).inf = v := ⟨_, rfl⟩
              have q1 := (H0.drew.blk 4 (b := rb) (t := 78) (c := #[.slice a1 ts.length c1, .slice (some gf) ts.length c2, .int .i64 (kp : Int), .int .i64 wy, .int .i64 ov, .int .i64 99]) rfl).cell 1
              have q2 := nowA_cell (H0.drew.blk 5 (b := bN) (t := 2) (c := nowA Lk) rfl) (i := i) (by omega)
              rw [hv] at q2
              have q3 : (World.drew wr).cell? (gf.add k) = some (.int .i64 f) := by
                obtain ⟨gf', ef', _, haf'⟩ := (H0.drew.row 3 (t := 2) (sz := 1) (n := ts.length) (v := .slice (some gf) ts.length c2) (us := intC fs) rfl).rdv.at (by omega)
                have ef' : gf = gf' := by simpa using ef'
                subst ef'
                exact haf' k _ (by simp [intC, hf])
              have q0 : World.cell? (World.drew wr) ⟨bN, i, none⟩ = some (.int .i64 v) ∧ World.cell? (World.drew wr) ⟨rb, 1, none⟩ = some (.slice (some gf) ts.length c2) ∧ World.cell? (World.drew wr) (gf.add k) = some (.int .i64 f) := ⟨q2, q1, q3⟩
              have HVV := Lib.hid (And.intro hv (And.intro hi hf))
              clear q1 q2 q3 H0 hat hcc haf hcf hv hi hf hdr hI1
              go_upto_region 32 with fail
              go_cut [172] from 163 to 172 (fun s172 wx => s172 = .bool (v == f) ∧ Hid (Heap w wx (blkP bM 4 (mrkA L0) :: [rowP 3 1 (.slice (some go9) ts.length co) ts.length (intC (on.map fun (i : Nat) => (i : Int))), rowP 29 1 (.slice a1 ts.length c1) ts.length (intC (on.map told)), rowP 2 1 (.slice (some gf) ts.length c2) ts.length (intC fs), blkP rb 78 #[.slice a1 ts.length c1, .slice (some gf) ts.length c2, .int .i64 (kp : Int), .int .i64 wy, .int .i64 ov, .int .i64 99], blkP bN 2 (nowA Lk)] ++ (wdL c (alW (alR on fs (kp : Int) wy ov) (ndW 1 5).ep L0 1 all) ++ [rowP 29 1 (.slice a0 5 cp) 5 (intC (tolds 5))]))))
              case first =>
                have HZ0 := Lib.hid HH0.out.drew
                clear HH0
                as_aux_lemma =>
                  refine wp_region_noPanic ?_
                  refine AnyK.start (ks := []) (S := fun w' => w'.cell? ⟨bN, i, none⟩ = some (.int .i64 v) ∧ w'.cell? ⟨rb, 1, none⟩ = some (.slice (some gf) ts.length c2) ∧ w'.cell? (gf.add k) = some (.int .i64 f)) (by kernel_rfl) (by exact q0) (fun _ => ?_)
                  refine AnyK.take (i := 0) (v := ?_) rfl (by kernel_rfl) (by kernel_rfl) (by kernel_rfl) (by kernel_rfl) (fun _ _ _ h => h) (Or.inl ⟨by rfl, ?_⟩) (by exact q0) ?_
                  rotate_left
                  focus
                    intro w9 hSw
                    try dsimp only at hSw
                    go_simp
                    try with_reducible rfl
                  try simp only [Act.put, List.getElem_toArray, List.getElem_cons_zero, List.getElem_cons_succ, List.setIfInBounds_toArray, List.set_cons_zero, List.set_cons_succ]
                  refine AnyK.take (i := 1) (v := ?_) rfl (by kernel_rfl) (by kernel_rfl) (by kernel_rfl) (by kernel_rfl) (fun _ _ _ h => h) (Or.inl ⟨by rfl, ?_⟩) (by exact q0) ?_
                  rotate_left
                  focus
                    intro w9 hSw
                    try dsimp only at hSw
                    go_simp
                    try with_reducible rfl
                  try simp only [Act.put, List.getElem_toArray, List.getElem_cons_zero, List.getElem_cons_succ, List.setIfInBounds_toArray, List.set_cons_zero, List.set_cons_succ]
                  refine AnyK.take (i := 2) (v := ?_) rfl (by kernel_rfl) (by kernel_rfl) (by kernel_rfl) (by kernel_rfl) (fun _ _ _ h => h) (Or.inl ⟨by rfl, ?_⟩) (by exact q0) ?_
                  rotate_left
                  focus
                    intro w9 hSw
                    try dsimp only at hSw
                    go_simp
                    try with_reducible rfl
                  try simp only [Act.put, List.getElem_toArray, List.getElem_cons_zero, List.getElem_cons_succ, List.setIfInBounds_toArray, List.set_cons_zero, List.set_cons_succ]
                  refine AnyK.take (i := 3) (v := ?_) rfl (by kernel_rfl) (by kernel_rfl) (by kernel_rfl) (by kernel_rfl) (fun _ _ _ h => h) (Or.inl ⟨by rfl, ?_⟩) (by exact q0) ?_
                  rotate_left
                  focus
                    intro w9 hSw
                    try dsimp only at hSw
                    go_simp
                    try with_reducible rfl
                  try simp only [Act.put, List.getElem_toArray, List.getElem_cons_zero, List.getElem_cons_succ, List.setIfInBounds_toArray, List.set_cons_zero, List.set_cons_succ]
                  refine AnyK.take (i := 4) (v := ?_) rfl (by kernel_rfl) (by kernel_rfl) (by kernel_rfl) (by kernel_rfl) (fun _ _ _ h => h) (Or.inl ⟨by rfl, ?_⟩) (by exact q0) ?_
                  rotate_left
                  focus
                    intro w9 hSw
                    try dsimp only at hSw
                    go_simp
                    try with_reducible rfl
                  try simp only [Act.put, List.getElem_toArray, List.getElem_cons_zero, List.getElem_cons_succ, List.setIfInBounds_toArray, List.set_cons_zero, List.set_cons_succ]
                  refine AnyK.take (i := 5) (v := ?_) rfl (by kernel_rfl) (by kernel_rfl) (by kernel_rfl) (by kernel_rfl) (fun _ _ _ h => h) (Or.inl ⟨by rfl, ?_⟩) (by exact q0) ?_
                  rotate_left
                  focus
                    intro w9 hSw
                    try dsimp only at hSw
                    go_simp
                    try with_reducible rfl
                  try simp only [Act.put, List.getElem_toArray, List.getElem_cons_zero, List.getElem_cons_succ, List.setIfInBounds_toArray, List.set_cons_zero, List.set_cons_succ]
                  refine AnyK.take (i := 6) (v := ?_) rfl (by kernel_rfl) (by kernel_rfl) (by kernel_rfl) (by kernel_rfl) (fun _ _ _ h => h) (Or.inl ⟨by rfl, ?_⟩) (by exact q0) ?_
                  rotate_left
                  focus
                    intro w9 hSw
                    try dsimp only at hSw
                    go_simp
                    try with_reducible rfl
                  try simp only [Act.put, List.getElem_toArray, List.getElem_cons_zero, List.getElem_cons_succ, List.setIfInBounds_toArray, List.set_cons_zero, List.set_cons_succ]
                  refine AnyK.take (i := 7) (v := ?_) rfl (by kernel_rfl) (by kernel_rfl) (by kernel_rfl) (by kernel_rfl) (fun _ _ _ h => h) (Or.inl ⟨by rfl, ?_⟩) (by exact q0) ?_
                  rotate_left
                  focus
                    intro w9 hSw
                    try dsimp only at hSw
                    go_simp
                    try with_reducible rfl
                  try simp only [Act.put, List.getElem_toArray, List.getElem_cons_zero, List.getElem_cons_succ, List.setIfInBounds_toArray, List.set_cons_zero, List.set_cons_succ]
                  refine AnyK.take (i := 8) (v := ?_) rfl (by kernel_rfl) (by kernel_rfl) (by kernel_rfl) (by kernel_rfl) (fun _ _ _ h => h) (Or.inl ⟨by rfl, ?_⟩) (by exact q0) ?_
                  rotate_left
                  focus
                    intro w9 hSw
                    try dsimp only at hSw
                    go_simp
                    try with_reducible rfl
                  try simp only [Act.put, List.getElem_toArray, List.getElem_cons_zero, List.getElem_cons_succ, List.setIfInBounds_toArray, List.set_cons_zero, List.set_cons_succ]
                  refine AnyK.take (i := 9) (v := ?_) rfl (by kernel_rfl) (by kernel_rfl) (by kernel_rfl) (by kernel_rfl) (fun _ _ _ h => h) (Or.inl ⟨by rfl, ?_⟩) (by exact q0) ?_
                  rotate_left
                  focus
                    intro w9 hSw
                    try dsimp only at hSw
                    go_simp
                    try with_reducible rfl
                  try simp only [Act.put, List.getElem_toArray, List.getElem_cons_zero, List.getElem_cons_succ, List.setIfInBounds_toArray, List.set_cons_zero, List.set_cons_succ]
                  refine AnyK.done (by kernel_rfl) ?_ _
                  refine NoPanic.normal ?_
                  clear q0
                  go_wp2_with fail
                  go_meet
                  exact ⟨rfl, HZ0⟩
              case rest =>
              obtain ⟨rfl, HHZ⟩ := hcut
              clear q0 HH0
              rename World => w13
              rename ∀ (a : Act) (w : World), Code.wp Try.prog _ _ a w → _ => hK8
              refine hK8 _ _ ?_
              clear hK8
              have q2 := nowA_cell (HHZ.out.blk 5 (b := bN) (t := 2) (c := nowA Lk) rfl) (i := i) (by omega)
              rw [HVV.out.1] at q2
              by_cases e1 : v = f
              · have fb : (v == f) = true := beq_iff_eq.2 e1
                have e1 := Lib.hid e1
                have H1 : Hid (Heap w (World.setCell w13 ⟨bN, i, none⟩ (.int .i64 1)) (blkP bM 4 (mrkA L0) :: [rowP 3 1 (.slice (some go9) ts.length co) ts.length (intC (on.map fun (i : Nat) => (i : Int))), rowP 29 1 (.slice a1 ts.length c1) ts.length (intC (on.map told)), rowP 2 1 (.slice (some gf) ts.length c2) ts.length (intC fs), blkP rb 78 #[.slice a1 ts.length c1, .slice (some gf) ts.length c2, .int .i64 (kp : Int), .int .i64 wy, .int .i64 ov, .int .i64 99], blkP bN 2 (nowA (Lk.set i { Lk.getD i nk0 with inf := 1 }))] ++ (wdL c (alW (alR on fs (kp : Int) wy ov) (ndW 1 5).ep L0 1 all) ++ [rowP 29 1 (.slice a0 5 cp) 5 (intC (tolds 5))]))) := Lib.hid (by
                  have := HHZ.out.setCell 5 (b := bN) (t := 2) (c := nowA Lk) rfl i (.int .i64 1)
                  rw [nowA_set] at this
                  exact this)
                have HX : Hid ((hI all (on.zip fs) L0 = ((hI all ((on.zip fs).drop (k + 1)) ((Lk.set i { Lk.getD i nk0 with inf := 1 }))).1 + (t + 1), (hI all ((on.zip fs).drop (k + 1)) ((Lk.set i { Lk.getD i nk0 with inf := 1 }))).2)) ∧ t + 1 ≤ 2 * (k + 1) ∧ ((Lk.set i { Lk.getD i nk0 with inf := 1 })).length = 5 ∧ Heap w (World.setCell w13 ⟨bN, i, none⟩ (.int .i64 1)) (blkP bM 4 (mrkA L0) :: [rowP 3 1 (.slice (some go9) ts.length co) ts.length (intC (on.map fun (i : Nat) => (i : Int))), rowP 29 1 (.slice a1 ts.length c1) ts.length (intC (on.map told)), rowP 2 1 (.slice (some gf) ts.length c2) ts.length (intC fs), blkP rb 78 #[.slice a1 ts.length c1, .slice (some gf) ts.length c2, .int .i64 (kp : Int), .int .i64 wy, .int .i64 ov, .int .i64 99], blkP bN 2 (nowA ((Lk.set i { Lk.getD i nk0 with inf := 1 })))] ++ (wdL c (alW (alR on fs (kp : Int) wy ov) (ndW 1 5).ep L0 1 all) ++ [rowP 29 1 (.slice a0 5 cp) 5 (intC (tolds 5))]))) := Lib.hid ⟨by
                  rw [HII.out, hI_cons, HVV.out.1, if_pos e1.out]; dsimp only; rw [Nat.add_assoc, Nat.add_comm 1 t], by omega, by rw [List.length_set]; exact hLk, H1.out⟩
                have f5 := (HHZ.out.blk 5 (b := bN) (t := 2) (c := nowA Lk) rfl).froz i
                clear H1 HHZ HII
                go_wp2_with fail
                exact ⟨⟨k + 1, t + 1, _, by go_num, by omega, by go_num, rfl, rfl, rfl, HX⟩, by simp [intOf]; omega⟩
              · have fb : (v == f) = false := beq_eq_false_iff_ne.2 e1
                have e1 := Lib.hid e1
                by_cases e2 : v = 1
                · have fb2 : (v == 1) = true := beq_iff_eq.2 e2
                  have HX : Hid ((hI all (on.zip fs) L0 = ((hI all ((on.zip fs).drop (k + 1)) (Lk)).1 + (t + 2), (hI all ((on.zip fs).drop (k + 1)) (Lk)).2)) ∧ t + 2 ≤ 2 * (k + 1) ∧ (Lk).length = 5 ∧ Heap w (w13) (blkP bM 4 (mrkA L0) :: [rowP 3 1 (.slice (some go9) ts.length co) ts.length (intC (on.map fun (i : Nat) => (i : Int))), rowP 29 1 (.slice a1 ts.length c1) ts.length (intC (on.map told)), rowP 2 1 (.slice (some gf) ts.length c2) ts.length (intC fs), blkP rb 78 #[.slice a1 ts.length c1, .slice (some gf) ts.length c2, .int .i64 (kp : Int), .int .i64 wy, .int .i64 ov, .int .i64 99], blkP bN 2 (nowA (Lk))] ++ (wdL c (alW (alR on fs (kp : Int) wy ov) (ndW 1 5).ep L0 1 all) ++ [rowP 29 1 (.slice a0 5 cp) 5 (intC (tolds 5))]))) := Lib.hid ⟨by
                    rw [HII.out, hI_cons, HVV.out.1, if_neg e1.out, if_pos e2]; dsimp only; rw [Nat.add_assoc, Nat.add_comm 2 t], by omega, hLk, HHZ.out⟩
                  clear HHZ HII e2
                  go_wp2_with fail
                  exact ⟨⟨k + 1, t + 2, _, by go_num, by omega, by go_num, rfl, rfl, rfl, HX⟩, by simp [intOf]; omega⟩
                · have fb2 : (v == 1) = false := beq_eq_false_iff_ne.2 e2
                  have HX : Hid ((hI all (on.zip fs) L0 = (t + (if all = true then 3 else 4), true, Lk)) ∧ t ≤ 2 * k ∧ Heap w w13 (blkP bM 4 (mrkA L0) :: [rowP 3 1 (.slice (some go9) ts.length co) ts.length (intC (on.map fun (i : Nat) => (i : Int))), rowP 29 1 (.slice a1 ts.length c1) ts.length (intC (on.map told)), rowP 2 1 (.slice (some gf) ts.length c2) ts.length (intC fs), blkP rb 78 #[.slice a1 ts.length c1, .slice (some gf) ts.length c2, .int .i64 (kp : Int), .int .i64 wy, .int .i64 ov, .int .i64 99], blkP bN 2 (nowA Lk)] ++ (wdL c (alW (alR on fs (kp : Int) wy ov) (ndW 1 5).ep L0 1 all) ++ [rowP 29 1 (.slice a0 5 cp) 5 (intC (tolds 5))]))) := Lib.hid ⟨by
                    rw [HII.out, hI_cons, HVV.out.1, if_neg e1.out, if_neg e2]; dsimp only; rw [Nat.add_comm], ht2, HHZ.out⟩
                  clear HHZ HII e2
                  cases all with
                  | true =>
                    go_wp2_with fail
                    go_meet
                    exact ⟨t + 3, true, 1, true, Lk, by go_num, rfl, rfl, rfl, Lib.hid ⟨HX.out.1, by have := HX.out.2.1; omega, hLk, rfl, rfl, HX.out.2.2⟩⟩
                  | false =>
                    go_wp2_with fail
                    go_meet
                    exact ⟨t + 4, true, 0, false, Lk, by go_num, rfl, rfl, rfl, Lib.hid ⟨HX.out.1, by have := HX.out.2.1; omega, hLk, rfl, rfl, HX.out.2.2⟩⟩
            · have hkn : k = ts.length := by omega
              obtain ⟨hI1, ht2, hLk, H0⟩ := HI.out
              have HX : Hid ((hI all (on.zip fs) L0 = (t, false, Lk)) ∧ t ≤ 20 ∧ Lk.length = 5 ∧ Heap w wr (blkP bM 4 (mrkA L0) :: [rowP 3 1 (.slice ao ts.length co) ts.length (intC (on.map fun (i : Nat) => (i : Int))), rowP 29 1 (.slice a1 ts.length c1) ts.length (intC (on.map told)), rowP 2 1 (.slice a2 ts.length c2) ts.length (intC fs), blkP rb 78 #[.slice a1 ts.length c1, .slice a2 ts.length c2, .int .i64 (kp : Int), .int .i64 wy, .int .i64 ov, .int .i64 99], blkP bN 2 (nowA Lk)] ++ (wdL c (alW (alR on fs (kp : Int) wy ov) (ndW 1 5).ep L0 1 all) ++ [rowP 29 1 (.slice a0 5 cp) 5 (intC (tolds 5))]))) := Lib.hid ⟨by
                rw [hI1, List.drop_eq_nil_of_le (by rw [List.length_zip, HOF.out.1, HOF.out.2.1, hkn]; omega)]; simp [hI], by omega, hLk, H0⟩
              clear HI H0 hI1 ht2 hLk
              subst hkn
              go_wp2_with fail
              go_meet
              exact ⟨t, false, 2, true, Lk, rfl, rfl, rfl, rfl, Lib.hid ⟨HX.out.1, HX.out.2.1, HX.out.2.2.1, rfl, rfl, HX.out.2.2.2⟩⟩
          case rest =>
          obtain ⟨t, sb, st, dn, L1', rfl, rfl, rfl, rfl, HF⟩ := hcut
          clear HH
          rename World => w12
          have H6 := HF.out.2.2.2.2.2.allocF 97 #[.int .i64 0, .int .i64 0]
          have HFF := Lib.hid (And.intro HF.out.1 (And.intro HF.out.2.1 (And.intro HF.out.2.2.1 (And.intro HF.out.2.2.2.1 HF.out.2.2.2.2.1))))
          obtain ⟨bF, hbF⟩ : ∃ r, w12.heap.size = r := ⟨_, rfl⟩
          obtain ⟨w14, hw14⟩ : ∃ z, w12.alloc (.cells #[.int .i64 0, .int .i64 0] 97) = z := ⟨_, rfl⟩
          rw [hbF, hw14] at H6
          have HH6 : Hid (Heap w w14 (blkP bF 97 #[.int .i64 0, .int .i64 0] :: (blkP bM 4 (mrkA L0) :: [rowP 3 1 (.slice ao ts.length co) ts.length (intC (on.map fun (i : Nat) => (i : Int))), rowP 29 1 (.slice a1 ts.length c1) ts.length (intC (on.map told)), rowP 2 1 (.slice a2 ts.length c2) ts.length (intC fs), blkP rb 78 #[.slice a1 ts.length c1, .slice a2 ts.length c2, .int .i64 (kp : Int), .int .i64 wy, .int .i64 ov, .int .i64 99], blkP bN 2 (nowA L1')] ++ (wdL c (alW (alR on fs (kp : Int) wy ov) (ndW 1 5).ep L0 1 all) ++ [rowP 29 1 (.slice a0 5 cp) 5 (intC (tolds 5))])))) := Lib.hid H6
          have HWW := Lib.hid (And.intro hbF hw14)
          clear H6 hbF hw14 HF
          go_upto_region 43 with fail
          rw [HWW.out.1, HWW.out.2]
          clear HWW
          go_cut [196] from 194 to 196 (fun s196 wx => s196 = .bool (decide (0 < ts.length)) ∧ Hid (Heap w wx (blkP bF 97 #[.int .i64 0, .int .i64 0] :: (blkP bM 4 (mrkA L0) :: [rowP 3 1 (.slice ao ts.length co) ts.length (intC (on.map fun (i : Nat) => (i : Int))), rowP 29 1 (.slice a1 ts.length c1) ts.length (intC (on.map told)), rowP 2 1 (.slice a2 ts.length c2) ts.length (intC fs), blkP rb 78 #[.slice a1 ts.length c1, .slice a2 ts.length c2, .int .i64 (kp : Int), .int .i64 wy, .int .i64 ov, .int .i64 99], blkP bN 2 (nowA L1')] ++ (wdL c (alW (alR on fs (kp : Int) wy ov) (ndW 1 5).ep L0 1 all) ++ [rowP 29 1 (.slice a0 5 cp) 5 (intC (tolds 5))])))))
          case first =>
            go_wp2_with fail
            go_meet
            exact ⟨rfl, HH6⟩
          case rest =>
          obtain ⟨rfl, HH6⟩ := hcut
          rename World => w15
          rename ∀ (a : Act) (w : World), Code.wp Try.prog _ _ a w → _ => hK8
          refine hK8 _ _ ?_
          clear hK8
          go_cut [] from 194 to 207 (fun wx => ∃ x y : Int, Hid ((∀ i : Nat, on[0]? = some i → x = 200 + 10 * (i : Int) ∧ y = 201 + 10 * (i : Int)) ∧ Heap w wx (blkP bF 97 #[.int .i64 x, .int .i64 y] :: (blkP bM 4 (mrkA L0) :: [rowP 3 1 (.slice ao ts.length co) ts.length (intC (on.map fun (i : Nat) => (i : Int))), rowP 29 1 (.slice a1 ts.length c1) ts.length (intC (on.map told)), rowP 2 1 (.slice a2 ts.length c2) ts.length (intC fs), blkP rb 78 #[.slice a1 ts.length c1, .slice a2 ts.length c2, .int .i64 (kp : Int), .int .i64 wy, .int .i64 ov, .int .i64 99], blkP bN 2 (nowA L1')] ++ (wdL c (alW (alR on fs (kp : Int) wy ov) (ndW 1 5).ep L0 1 all) ++ [rowP 29 1 (.slice a0 5 cp) 5 (intC (tolds 5))])))))
          case first =>
            by_cases hn0 : ts.length = 0
            · have hng : ¬ 0 < ts.length := by omega
              have HE : Hid (∀ i : Nat, on[0]? = some i → (0 : Int) = 200 + 10 * (i : Int) ∧ (0 : Int) = 201 + 10 * (i : Int)) := Lib.hid (fun i hi => by
                have h1 := (List.getElem?_eq_some_iff.1 hi).1
                have := HOF.out.1
                omega)
              clear hn0
              go_wp2_with fail
              go_meet
              exact ⟨0, 0, Lib.hid ⟨HE.out, HH6.out⟩⟩
            · have hng : 0 < ts.length := by omega
              clear hn0
              obtain ⟨i1, hi1⟩ : ∃ i, on[0]? = some i := ⟨_, List.getElem?_eq_getElem (by have := HOF.out.1; omega)⟩
              have HZ := Lib.hid HH6.out.drew
              obtain ⟨go9, ee, hcc, hat⟩ := (HZ.out.row 2 (t := 3) (sz := 1) (n := ts.length) (v := .slice ao ts.length co) (us := intC (on.map fun (i : Nat) => (i : Int))) rfl).rdv.at (by omega)
              have ee : ao = some go9 := by simpa using ee
              subst ee
              have q0 : World.cell? (World.drew w15) go9 = some (.int .i64 (i1 : Int)) := hat 0 _ (by simp [intC, hi1])
              have hi15 : i1 < 5 := HOF.out.2.2 i1 (List.mem_of_getElem? hi1)
              have HI1 := Lib.hid hi1
              clear hat hcc hi1
              go_upto_region 44 with fail
              as_aux_lemma =>
                have hw0 : IntKind.i64.wrap (10 * (i1 : Int)) = 10 * (i1 : Int) := by rw [IntKind.wrap_i64]; omega
                have hw1 : IntKind.i64.wrap (200 + 10 * (i1 : Int)) = 200 + 10 * (i1 : Int) := by rw [IntKind.wrap_i64]; omega
                have hw2 : IntKind.i64.wrap (201 + 10 * (i1 : Int)) = 201 + 10 * (i1 : Int) := by rw [IntKind.wrap_i64]; omega
                refine wp_region_noPanic ?_
                refine AnyK.start (ks := [11]) (S := fun w' => w'.cell? go9 = some (.int .i64 (i1 : Int))) (by kernel_rfl) (by exact q0) (fun _ => ?_)
                refine AnyK.takeB (i := 0) (v := ?_) rfl (by kernel_rfl) (by kernel_rfl) (by kernel_rfl) (by kernel_rfl) (fun _ _ _ h => h) (Or.inl ⟨by rfl, ?_⟩) (by exact q0) ?_
                rotate_left
                focus
                  intro w9 hSw
                  try dsimp only at hSw
                  go_simp
                  try with_reducible rfl
                try simp only [Act.put, List.getElem_toArray, List.getElem_cons_zero, List.getElem_cons_succ, List.setIfInBounds_toArray, List.set_cons_zero, List.set_cons_succ]
                refine AnyK.takeB (i := 1) (v := ?_) rfl (by kernel_rfl) (by kernel_rfl) (by kernel_rfl) (by kernel_rfl) (fun _ _ _ h => h) (Or.inl ⟨by rfl, ?_⟩) (by exact q0) ?_
                rotate_left
                focus
                  intro w9 hSw
                  try dsimp only at hSw
                  go_simp
                  try with_reducible rfl
                try simp only [Act.put, List.getElem_toArray, List.getElem_cons_zero, List.getElem_cons_succ, List.setIfInBounds_toArray, List.set_cons_zero, List.set_cons_succ]
                refine AnyK.takeB (i := 2) (v := ?_) rfl (by kernel_rfl) (by kernel_rfl) (by kernel_rfl) (by kernel_rfl) (fun _ _ _ h => h) (Or.inl ⟨by rfl, ?_⟩) (by exact q0) ?_
                rotate_left
                focus
                  intro w9 hSw
                  try dsimp only at hSw
                  go_simp
                  try with_reducible rfl
                try simp only [Act.put, List.getElem_toArray, List.getElem_cons_zero, List.getElem_cons_succ, List.setIfInBounds_toArray, List.set_cons_zero, List.set_cons_succ]
                refine AnyK.takeB (i := 3) (v := ?_) rfl (by kernel_rfl) (by kernel_rfl) (by kernel_rfl) (by kernel_rfl) (fun _ _ _ h => h) (Or.inl ⟨by rfl, ?_⟩) (by exact q0) ?_
                rotate_left
                focus
                  intro w9 hSw
                  try dsimp only at hSw
                  go_simp
                  try with_reducible rfl
                try simp only [Act.put, List.getElem_toArray, List.getElem_cons_zero, List.getElem_cons_succ, List.setIfInBounds_toArray, List.set_cons_zero, List.set_cons_succ]
                refine AnyK.takeB (i := 4) (v := ?_) rfl (by kernel_rfl) (by kernel_rfl) (by kernel_rfl) (by kernel_rfl) (fun _ _ _ h => h) (Or.inl ⟨by rfl, ?_⟩) (by exact q0) ?_
                rotate_left
                focus
                  intro w9 hSw
                  try dsimp only at hSw
                  go_simp
                  try with_reducible rfl
                try simp only [Act.put, List.getElem_toArray, List.getElem_cons_zero, List.getElem_cons_succ, List.setIfInBounds_toArray, List.set_cons_zero, List.set_cons_succ]
                refine AnyK.takeB (i := 5) (v := ?_) rfl (by kernel_rfl) (by kernel_rfl) (by kernel_rfl) (by kernel_rfl) (fun _ _ _ h => h) (Or.inl ⟨by rfl, ?_⟩) (by exact q0) ?_
                rotate_left
                focus
                  intro w9 hSw
                  try dsimp only at hSw
                  go_simp
                  try with_reducible rfl
                try simp only [Act.put, List.getElem_toArray, List.getElem_cons_zero, List.getElem_cons_succ, List.setIfInBounds_toArray, List.set_cons_zero, List.set_cons_succ]
                refine AnyK.takeB (i := 6) (v := ?_) rfl (by kernel_rfl) (by kernel_rfl) (by kernel_rfl) (by kernel_rfl) (fun _ _ _ h => h) (Or.inl ⟨by rfl, ?_⟩) (by exact q0) ?_
                rotate_left
                focus
                  intro w9 hSw
                  try dsimp only at hSw
                  go_simp
                  try with_reducible rfl
                try simp only [Act.put, List.getElem_toArray, List.getElem_cons_zero, List.getElem_cons_succ, List.setIfInBounds_toArray, List.set_cons_zero, List.set_cons_succ]
                refine AnyK.takeB (i := 7) (v := ?_) rfl (by kernel_rfl) (by kernel_rfl) (by kernel_rfl) (by kernel_rfl) (fun _ _ _ h => h) (Or.inl ⟨by rfl, ?_⟩) (by exact q0) ?_
                rotate_left
                focus
                  intro w9 hSw
                  try dsimp only at hSw
                  go_simp
                  try with_reducible rfl
                try simp only [Act.put, List.getElem_toArray, List.getElem_cons_zero, List.getElem_cons_succ, List.setIfInBounds_toArray, List.set_cons_zero, List.set_cons_succ]
                refine AnyK.takeB (i := 8) (v := ?_) rfl (by kernel_rfl) (by kernel_rfl) (by kernel_rfl) (by kernel_rfl) (fun _ _ _ h => h) (Or.inl ⟨by rfl, ?_⟩) (by exact q0) ?_
                rotate_left
                focus
                  intro w9 hSw
                  try dsimp only at hSw
                  go_simp
                  try with_reducible rfl
                try simp only [Act.put, List.getElem_toArray, List.getElem_cons_zero, List.getElem_cons_succ, List.setIfInBounds_toArray, List.set_cons_zero, List.set_cons_succ]
                refine AnyK.takeB (i := 9) (v := ?_) rfl (by kernel_rfl) (by kernel_rfl) (by kernel_rfl) (by kernel_rfl) (fun _ _ _ h => h) (Or.inl ⟨by rfl, ?_⟩) (by exact q0) ?_
                rotate_left
                focus
                  intro w9 hSw
                  try dsimp only at hSw
                  go_simp
                  try with_reducible rfl
                try simp only [Act.put, List.getElem_toArray, List.getElem_cons_zero, List.getElem_cons_succ, List.setIfInBounds_toArray, List.set_cons_zero, List.set_cons_succ]
                refine AnyK.takeB (i := 10) (v := ?_) rfl (by kernel_rfl) (by kernel_rfl) (by kernel_rfl) (by kernel_rfl) (fun _ _ _ h => h) (Or.inl ⟨by rfl, ?_⟩) (by exact q0) ?_
                rotate_left
                focus
                  intro w9 hSw
                  try dsimp only at hSw
                  go_simp
                  try with_reducible rfl
                try simp only [Act.put, List.getElem_toArray, List.getElem_cons_zero, List.getElem_cons_succ, List.setIfInBounds_toArray, List.set_cons_zero, List.set_cons_succ]
                clear hw0 hw1 hw2
                refine name_w (fun z0 hz0 => ?_)
                rw [← hz0] at HZ
                clear hz0
                have B := HZ.out.blk 0 (b := bF) (t := 97) (c := #[.int .i64 0, .int .i64 0]) rfl
                have e0 : World.cell? z0 ⟨bF, 0, none⟩ = some (.int .i64 0) := B.cell 0
                have f0 := B.froz 0
                have e1 : World.cell? z0 ⟨bF, 1, none⟩ = some (.int .i64 0) := B.cell 1
                have f1 := B.froz 1
                have H1 : Hid (Heap w (World.setCell (World.setCell z0 ⟨bF, 0, none⟩ (.int .i64 (200 + 10 * (i1 : Int)))) ⟨bF, 1, none⟩ (.int .i64 (201 + 10 * (i1 : Int)))) (blkP bF 97 #[.int .i64 (200 + 10 * (i1 : Int)), .int .i64 (201 + 10 * (i1 : Int))] :: (blkP bM 4 (mrkA L0) :: [rowP 3 1 (.slice (some go9) ts.length co) ts.length (intC (on.map fun (i : Nat) => (i : Int))), rowP 29 1 (.slice a1 ts.length c1) ts.length (intC (on.map told)), rowP 2 1 (.slice a2 ts.length c2) ts.length (intC fs), blkP rb 78 #[.slice a1 ts.length c1, .slice a2 ts.length c2, .int .i64 (kp : Int), .int .i64 wy, .int .i64 ov, .int .i64 99], blkP bN 2 (nowA L1')] ++ (wdL c (alW (alR on fs (kp : Int) wy ov) (ndW 1 5).ep L0 1 all) ++ [rowP 29 1 (.slice a0 5 cp) 5 (intC (tolds 5))])))) := Lib.hid ((HZ.out.setCell 0 rfl 0 (.int .i64 (200 + 10 * (i1 : Int)))).setCell 0 rfl 1 (.int .i64 (201 + 10 * (i1 : Int))))
                clear B HZ q0
                refine AnyK.one (i := 11) (by kernel_rfl) rfl (fun K9 hK9 => ?_)
                go_simp
                refine hK9.out _ _ (fun hx => absurd (by decide) hx) ?_
                clear hK9 K9
                try simp only [Act.put, List.getElem_toArray, List.getElem_cons_zero, List.getElem_cons_succ, List.setIfInBounds_toArray, List.set_cons_zero, List.set_cons_succ]
                refine AnyK.done (by kernel_rfl) ?_ _
                refine NoPanic.normal ?_
                go_wp2_with fail
                go_meet
                exact ⟨200 + 10 * (i1 : Int), 201 + 10 * (i1 : Int), Lib.hid ⟨fun i hi => by have := HI1.out; rw [hi] at this; injection this with this; subst this; exact ⟨rfl, rfl⟩, H1.out⟩⟩
          case rest =>
          obtain ⟨x0, y0, HH⟩ := hcut
          clear HH6
          rename World => w16
          go_upto_region 45 with fail
          go_cut [209] from 208 to 209 (fun s209 wx => s209 = .bool (!sb) ∧ Hid ((∀ i : Nat, on[0]? = some i → x0 = 200 + 10 * (i : Int) ∧ y0 = 201 + 10 * (i : Int)) ∧ Heap w wx (blkP bF 97 #[.int .i64 x0, .int .i64 y0] :: (blkP bM 4 (mrkA L0) :: [rowP 3 1 (.slice ao ts.length co) ts.length (intC (on.map fun (i : Nat) => (i : Int))), rowP 29 1 (.slice a1 ts.length c1) ts.length (intC (on.map told)), rowP 2 1 (.slice a2 ts.length c2) ts.length (intC fs), blkP rb 78 #[.slice a1 ts.length c1, .slice a2 ts.length c2, .int .i64 (kp : Int), .int .i64 wy, .int .i64 ov, .int .i64 99], blkP bN 2 (nowA L1')] ++ (wdL c (alW (alR on fs (kp : Int) wy ov) (ndW 1 5).ep L0 1 all) ++ [rowP 29 1 (.slice a0 5 cp) 5 (intC (tolds 5))])))))
          case first =>
            go_wp2_with fail
            go_meet
            exact ⟨rfl, HH⟩
          case rest =>
          obtain ⟨rfl, HH⟩ := hcut
          rename World => w17
          rename ∀ (a : Act) (w : World), Code.wp Try.prog _ _ a w → _ => hK8
          refine hK8 _ _ ?_
          clear hK8
          go_cut [25] from 208 to 253 (fun s25 wx => ∃ (T : Nat) (x y : Int), s25 = .int .i64 (T : Int) ∧ Hid (T = (hRes all on fs kp wy ov L0).t ∧ st = (hRes all on fs kp wy ov L0).st ∧ dn = (hRes all on fs kp wy ov L0).b ∧ (all || !sb) = (hRes all on fs kp wy ov L0).al ∧ (∀ i : Nat, on[0]? = some i → i < 5 → x = ((hRes all on fs kp wy ov L0).L.getD i nk0).a ∧ y = ((hRes all on fs kp wy ov L0).L.getD i nk0).b) ∧ (hRes all on fs kp wy ov L0).L.length = 5 ∧ T ≤ 40 ∧ Heap w wx (blkP bF 97 #[.int .i64 x, .int .i64 y] :: (blkP bM 4 (mrkA (hRes all on fs kp wy ov L0).L) :: [rowP 3 1 (.slice ao ts.length co) ts.length (intC (on.map fun (i : Nat) => (i : Int))), rowP 29 1 (.slice a1 ts.length c1) ts.length (intC (on.map told)), rowP 2 1 (.slice a2 ts.length c2) ts.length (intC fs), blkP rb 78 #[.slice a1 ts.length c1, .slice a2 ts.length c2, .int .i64 (kp : Int), .int .i64 wy, .int .i64 ov, .int .i64 99], blkP bN 2 (nowA (hRes all on fs kp wy ov L0).L)] ++ (wdL c (alW (alR on fs (kp : Int) wy ov) (ndW 1 5).ep L0 1 all) ++ [rowP 29 1 (.slice a0 5 cp) 5 (intC (tolds 5))])))))
          case first =>
            cases sb with
            | true =>
              have hR : (hRes all on fs kp wy ov L0) = ⟨t, all, (if all = true then 1 else 0), all, L1'⟩ := by unfold hRes; rw [HFF.out.1]; rfl
              have hk := hI_keeps (al := all) (on.zip fs) L0
              rw [HFF.out.1] at hk
              have hm : mrkA L0 = mrkA L1' := mrkA_congr (by rw [HL0.out.1, HFF.out.2.2.1]) (fun i => ((hk i).2.2).symm)
              have HX : Hid (t = (hRes all on fs kp wy ov L0).t ∧ st = (hRes all on fs kp wy ov L0).st ∧ dn = (hRes all on fs kp wy ov L0).b ∧ (all || !true) = (hRes all on fs kp wy ov L0).al ∧ (∀ i : Nat, on[0]? = some i → i < 5 → x0 = ((hRes all on fs kp wy ov L0).L.getD i nk0).a ∧ y0 = ((hRes all on fs kp wy ov L0).L.getD i nk0).b) ∧ (hRes all on fs kp wy ov L0).L.length = 5 ∧ t ≤ 40 ∧ Heap w w17 (blkP bF 97 #[.int .i64 x0, .int .i64 y0] :: (blkP bM 4 (mrkA (hRes all on fs kp wy ov L0).L) :: [rowP 3 1 (.slice ao ts.length co) ts.length (intC (on.map fun (i : Nat) => (i : Int))), rowP 29 1 (.slice a1 ts.length c1) ts.length (intC (on.map told)), rowP 2 1 (.slice a2 ts.length c2) ts.length (intC fs), blkP rb 78 #[.slice a1 ts.length c1, .slice a2 ts.length c2, .int .i64 (kp : Int), .int .i64 wy, .int .i64 ov, .int .i64 99], blkP bN 2 (nowA (hRes all on fs kp wy ov L0).L)] ++ (wdL c (alW (alR on fs (kp : Int) wy ov) (ndW 1 5).ep L0 1 all) ++ [rowP 29 1 (.slice a0 5 cp) 5 (intC (tolds 5))])))) := Lib.hid (by
                rw [hR]
                refine ⟨rfl, HFF.out.2.2.2.1, HFF.out.2.2.2.2, by cases all <;> rfl, fun i hi h5 => ?_, HFF.out.2.2.1, by have := HFF.out.2.1; omega, ?_⟩
                · obtain ⟨h1, h2⟩ := HH.out.1 i hi
                  obtain ⟨h3, h4, _⟩ := HL0.out.2 i h5
                  exact ⟨by rw [h1, (hk i).1, h3], by rw [h2, (hk i).2.1, h4]⟩
                · dsimp only
                  rw [← hm]
                  exact HH.out.2)
              clear hR hk hm HH
              go_wp2_with fail
              go_meet
              exact ⟨t, x0, y0, rfl, HX⟩
            | false =>
              have HW6 : Hid (t + 2 = t + 2 + (0 - kp) ∧ Heap w w17 (blkP bF 97 #[.int .i64 x0, .int .i64 y0] :: (blkP bM 4 (mrkA (hM ((on.take 0).drop kp) L1')) :: [rowP 3 1 (.slice ao ts.length co) ts.length (intC (on.map fun (i : Nat) => (i : Int))), rowP 29 1 (.slice a1 ts.length c1) ts.length (intC (on.map told)), rowP 2 1 (.slice a2 ts.length c2) ts.length (intC fs), blkP rb 78 #[.slice a1 ts.length c1, .slice a2 ts.length c2, .int .i64 (kp : Int), .int .i64 wy, .int .i64 ov, .int .i64 99], blkP bN 2 (nowA L1')] ++ (wdL c (alW (alR on fs (kp : Int) wy ov) (ndW 1 5).ep L0 1 all) ++ [rowP 29 1 (.slice a0 5 cp) 5 (intC (tolds 5))])))) := Lib.hid (by
                have hk := hI_keeps (al := all) (on.zip fs) L0
                rw [HFF.out.1] at hk
                refine ⟨by omega, ?_⟩
                rw [show (on.take 0).drop kp = [] by simp]
                show Heap w w17 (blkP bF 97 #[.int .i64 x0, .int .i64 y0] :: (blkP bM 4 (mrkA L1') :: [rowP 3 1 (.slice ao ts.length co) ts.length (intC (on.map fun (i : Nat) => (i : Int))), rowP 29 1 (.slice a1 ts.length c1) ts.length (intC (on.map told)), rowP 2 1 (.slice a2 ts.length c2) ts.length (intC fs), blkP rb 78 #[.slice a1 ts.length c1, .slice a2 ts.length c2, .int .i64 (kp : Int), .int .i64 wy, .int .i64 ov, .int .i64 99], blkP bN 2 (nowA L1')] ++ (wdL c (alW (alR on fs (kp : Int) wy ov) (ndW 1 5).ep L0 1 all) ++ [rowP 29 1 (.slice a0 5 cp) 5 (intC (tolds 5))])))
                rw [← mrkA_congr (by rw [HL0.out.1, HFF.out.2.2.1]) (fun i => ((hk i).2.2).symm)]
                exact HH.out.2)
              have HXY := Lib.hid HH.out.1
              have ht20 := HFF.out.2.1
              clear HH
              go_wp2_with fail
              go_loopw [25, 214] (fun s25 i wr => ∃ k m : Nat, i = .int .i64 (k : Nat) ∧ k ≤ ts.length ∧ s25 = .int .i64 (m : Int) ∧ m ≤ 22 + k ∧ Hid (m = t + 2 + (k - kp) ∧ Heap w wr (blkP bF 97 #[.int .i64 x0, .int .i64 y0] :: (blkP bM 4 (mrkA (hM ((on.take k).drop kp) L1')) :: [rowP 3 1 (.slice ao ts.length co) ts.length (intC (on.map fun (i : Nat) => (i : Int))), rowP 29 1 (.slice a1 ts.length c1) ts.length (intC (on.map told)), rowP 2 1 (.slice a2 ts.length c2) ts.length (intC fs), blkP rb 78 #[.slice a1 ts.length c1, .slice a2 ts.length c2, .int .i64 (kp : Int), .int .i64 wy, .int .i64 ov, .int .i64 99], blkP bN 2 (nowA L1')] ++ (wdL c (alW (alR on fs (kp : Int) wy ov) (ndW 1 5).ep L0 1 all) ++ [rowP 29 1 (.slice a0 5 cp) 5 (intC (tolds 5))]))))) (fun _ i _ => ts.length - (intOf i).toNat)
              case atStart => exact ⟨0, t + 2, rfl, Nat.zero_le _, by go_num, by omega, HW6⟩
              case round =>
              clear HW6
              obtain ⟨k, m, rfl, hk, rfl, hmb, HI⟩ := hrel
              by_cases hlt : k < ts.length
              · obtain ⟨i, hi⟩ : ∃ i, on[k]? = some i := ⟨_, List.getElem?_eq_getElem (by have := HOF.out.1; omega)⟩
                have hi5 : i < 5 := HOF.out.2.2 i (List.mem_of_getElem? hi)
                have hii : (i : Int) < 5 := by omega
                obtain ⟨go9, ee, hcc, hat⟩ := (HI.out.2.row 2 (t := 3) (sz := 1) (n := ts.length) (v := .slice ao ts.length co) (us := intC (on.map fun (i : Nat) => (i : Int))) rfl).rdv.at (by omega)
                have ee : ao = some go9 := by simpa using ee
                subst ee
                have y1 : World.cell? _ (go9.add k) = some (.int .i64 (i : Int)) := hat k _ (by simp [intC, hi])
                have q2 := (HI.out.2.blk 5 (b := rb) (t := 78) (c := #[.slice a1 ts.length c1, .slice a2 ts.length c2, .int .i64 (kp : Int), .int .i64 wy, .int .i64 ov, .int .i64 99]) rfl).cell 2
                have HHi := Lib.hid hi
                clear hat hcc hi
                by_cases hkk : kp ≤ k
                · have hkI : (kp : Int) ≤ (k : Int) := by omega
                  have B := HI.out.2.blk 1 (b := bM) (t := 4) (c := mrkA (hM ((on.take k).drop kp) L1')) rfl
                  have e1 := mrkA_cell B (i := i) (by rw [hM_len, HFF.out.2.2.1]; omega)
                  have f1 := B.froz i
                  have H1 := HI.out.2.setCell 1 rfl i (.bool true)
                  rw [mrkA_set, ← hM_snoc, ← drop_ge HHi.out hkk] at H1
                  have HX : Hid (m + 1 = t + 2 + (k + 1 - kp) ∧ Heap w (wr.setCell ⟨bM, i, none⟩ (.bool true)) (blkP bF 97 #[.int .i64 x0, .int .i64 y0] :: (blkP bM 4 (mrkA (hM ((on.take (k + 1)).drop kp) L1')) :: [rowP 3 1 (.slice (some go9) ts.length co) ts.length (intC (on.map fun (i : Nat) => (i : Int))), rowP 29 1 (.slice a1 ts.length c1) ts.length (intC (on.map told)), rowP 2 1 (.slice a2 ts.length c2) ts.length (intC fs), blkP rb 78 #[.slice a1 ts.length c1, .slice a2 ts.length c2, .int .i64 (kp : Int), .int .i64 wy, .int .i64 ov, .int .i64 99], blkP bN 2 (nowA L1')] ++ (wdL c (alW (alR on fs (kp : Int) wy ov) (ndW 1 5).ep L0 1 all) ++ [rowP 29 1 (.slice a0 5 cp) 5 (intC (tolds 5))])))) := Lib.hid ⟨by have := HI.out.1; omega, H1⟩
                  clear B H1 HI
                  go_wp2_with fail
                  exact ⟨⟨k + 1, m + 1, by go_num, by omega, by go_num, by omega, HX⟩, by simp [intOf]; omega⟩
                · have hkI : ¬ (kp : Int) ≤ (k : Int) := by omega
                  have HX : Hid (m = t + 2 + (k + 1 - kp) ∧ Heap w wr (blkP bF 97 #[.int .i64 x0, .int .i64 y0] :: (blkP bM 4 (mrkA (hM ((on.take (k + 1)).drop kp) L1')) :: [rowP 3 1 (.slice (some go9) ts.length co) ts.length (intC (on.map fun (i : Nat) => (i : Int))), rowP 29 1 (.slice a1 ts.length c1) ts.length (intC (on.map told)), rowP 2 1 (.slice a2 ts.length c2) ts.length (intC fs), blkP rb 78 #[.slice a1 ts.length c1, .slice a2 ts.length c2, .int .i64 (kp : Int), .int .i64 wy, .int .i64 ov, .int .i64 99], blkP bN 2 (nowA L1')] ++ (wdL c (alW (alR on fs (kp : Int) wy ov) (ndW 1 5).ep L0 1 all) ++ [rowP 29 1 (.slice a0 5 cp) 5 (intC (tolds 5))])))) := Lib.hid ⟨by have := HI.out.1; omega, by rw [drop_lt (by omega)]; exact HI.out.2⟩
                  clear HI
                  go_wp2_with fail
                  exact ⟨⟨k + 1, m, by go_num, by omega, rfl, by omega, HX⟩, by simp [intOf]; omega⟩
              · have hkn : k = ts.length := by omega
                subst hkn
                have HX : Hid (m = t + 2 + (ts.length - kp) ∧ Heap w wr (blkP bF 97 #[.int .i64 x0, .int .i64 y0] :: (blkP bM 4 (mrkA (hM (on.drop kp) L1')) :: [rowP 3 1 (.slice ao ts.length co) ts.length (intC (on.map fun (i : Nat) => (i : Int))), rowP 29 1 (.slice a1 ts.length c1) ts.length (intC (on.map told)), rowP 2 1 (.slice a2 ts.length c2) ts.length (intC fs), blkP rb 78 #[.slice a1 ts.length c1, .slice a2 ts.length c2, .int .i64 (kp : Int), .int .i64 wy, .int .i64 ov, .int .i64 99], blkP bN 2 (nowA L1')] ++ (wdL c (alW (alR on fs (kp : Int) wy ov) (ndW 1 5).ep L0 1 all) ++ [rowP 29 1 (.slice a0 5 cp) 5 (intC (tolds 5))])))) := Lib.hid (by
                  have h := HI.out
                  rw [List.take_of_length_le (by rw [HOF.out.1]; omega)] at h
                  exact h)
                clear HI
                rename World => w19
                go_upto_region 54 with fail
                go_cut [231] from 229 to 231 (fun s231 wx => s231 = .bool (decide (0 < ts.length)) ∧ Hid (m = t + 2 + (ts.length - kp) ∧ Heap w wx (blkP bF 97 #[.int .i64 x0, .int .i64 y0] :: (blkP bM 4 (mrkA (hM (on.drop kp) L1')) :: [rowP 3 1 (.slice ao ts.length co) ts.length (intC (on.map fun (i : Nat) => (i : Int))), rowP 29 1 (.slice a1 ts.length c1) ts.length (intC (on.map told)), rowP 2 1 (.slice a2 ts.length c2) ts.length (intC fs), blkP rb 78 #[.slice a1 ts.length c1, .slice a2 ts.length c2, .int .i64 (kp : Int), .int .i64 wy, .int .i64 ov, .int .i64 99], blkP bN 2 (nowA L1')] ++ (wdL c (alW (alR on fs (kp : Int) wy ov) (ndW 1 5).ep L0 1 all) ++ [rowP 29 1 (.slice a0 5 cp) 5 (intC (tolds 5))])))))
                case first =>
                  go_wp2_with fail
                  go_meet
                  exact ⟨rfl, HX⟩
                case rest =>
                obtain ⟨rfl, HX⟩ := hcut
                rename World => w20
                rename ∀ (a : Act) (w : World), Code.wp Try.prog _ _ a w → _ => hK8
                refine hK8 _ _ ?_
                clear hK8
                have hR : (hRes all on fs kp wy ov L0) = ⟨t + 2 + (on.length - kp) + (if on = [] then 0 else 1), true, 2, true, hEndL on kp wy ov L1'⟩ := by unfold hRes; rw [HFF.out.1]; rfl
                have HRR := Lib.hid hR
                clear hR
                by_cases hn0 : ts.length = 0
                · have hng : ¬ 0 < ts.length := by omega
                  have HE : Hid (m = (hRes all on fs kp wy ov L0).t ∧ st = (hRes all on fs kp wy ov L0).st ∧ dn = (hRes all on fs kp wy ov L0).b ∧ (all || !false) = (hRes all on fs kp wy ov L0).al ∧ (∀ i : Nat, on[0]? = some i → i < 5 → x0 = ((hRes all on fs kp wy ov L0).L.getD i nk0).a ∧ y0 = ((hRes all on fs kp wy ov L0).L.getD i nk0).b) ∧ (hRes all on fs kp wy ov L0).L.length = 5 ∧ m ≤ 40 ∧ Heap w w20 (blkP bF 97 #[.int .i64 x0, .int .i64 y0] :: (blkP bM 4 (mrkA (hRes all on fs kp wy ov L0).L) :: [rowP 3 1 (.slice ao ts.length co) ts.length (intC (on.map fun (i : Nat) => (i : Int))), rowP 29 1 (.slice a1 ts.length c1) ts.length (intC (on.map told)), rowP 2 1 (.slice a2 ts.length c2) ts.length (intC fs), blkP rb 78 #[.slice a1 ts.length c1, .slice a2 ts.length c2, .int .i64 (kp : Int), .int .i64 wy, .int .i64 ov, .int .i64 99], blkP bN 2 (nowA (hRes all on fs kp wy ov L0).L)] ++ (wdL c (alW (alR on fs (kp : Int) wy ov) (ndW 1 5).ep L0 1 all) ++ [rowP 29 1 (.slice a0 5 cp) 5 (intC (tolds 5))])))) := Lib.hid (by
                    have hon : on = [] := List.eq_nil_of_length_eq_zero (by rw [HOF.out.1]; exact hn0)
                    rw [HRR.out]
                    have h2 := HX.out.2
                    rw [show hM (on.drop kp) L1' = L1' by rw [hon, List.drop_nil]; rfl] at h2
                    rw [show hEndL on kp wy ov L1' = L1' by rw [hon]; rfl]
                    refine ⟨by dsimp only; rw [if_pos hon, HOF.out.1]; exact HX.out.1, HFF.out.2.2.2.1, HFF.out.2.2.2.2, by cases all <;> rfl, fun i hi => ?_, HFF.out.2.2.1, by omega, h2⟩
                    rw [hon] at hi
                    simp at hi)
                  clear hn0 HX
                  go_wp2_with fail
                  go_meet
                  exact ⟨m, x0, y0, rfl, HE⟩
                · have hng : 0 < ts.length := by omega
                  clear hn0
                  obtain ⟨i1, hi1⟩ : ∃ i, on[0]? = some i := ⟨_, List.getElem?_eq_getElem (by have := HOF.out.1; omega)⟩
                  have hi15 : i1 < 5 := HOF.out.2.2 i1 (List.mem_of_getElem? hi1)
                  have FIN : Hid (∀ (x y : Int) (z : World), x = (if wy = 0 ∧ x0 = ov then 99 else x0) → y = (if wy = 0 ∧ x0 = ov then y0 else if wy = 1 ∧ y0 = ov then 99 else y0) → Heap w z (blkP bF 97 #[.int .i64 x, .int .i64 y] :: (blkP bM 4 (mrkA (hM (on.drop kp) L1')) :: [rowP 3 1 (.slice ao ts.length co) ts.length (intC (on.map fun (i : Nat) => (i : Int))), rowP 29 1 (.slice a1 ts.length c1) ts.length (intC (on.map told)), rowP 2 1 (.slice a2 ts.length c2) ts.length (intC fs), blkP rb 78 #[.slice a1 ts.length c1, .slice a2 ts.length c2, .int .i64 (kp : Int), .int .i64 wy, .int .i64 ov, .int .i64 99], blkP bN 2 (nowA L1')] ++ (wdL c (alW (alR on fs (kp : Int) wy ov) (ndW 1 5).ep L0 1 all) ++ [rowP 29 1 (.slice a0 5 cp) 5 (intC (tolds 5))]))) → m + 1 = (hRes all on fs kp wy ov L0).t ∧ st = (hRes all on fs kp wy ov L0).st ∧ dn = (hRes all on fs kp wy ov L0).b ∧ (all || !false) = (hRes all on fs kp wy ov L0).al ∧ (∀ i : Nat, on[0]? = some i → i < 5 → x = ((hRes all on fs kp wy ov L0).L.getD i nk0).a ∧ y = ((hRes all on fs kp wy ov L0).L.getD i nk0).b) ∧ (hRes all on fs kp wy ov L0).L.length = 5 ∧ m + 1 ≤ 40 ∧ Heap w z (blkP bF 97 #[.int .i64 x, .int .i64 y] :: (blkP bM 4 (mrkA (hRes all on fs kp wy ov L0).L) :: [rowP 3 1 (.slice ao ts.length co) ts.length (intC (on.map fun (i : Nat) => (i : Int))), rowP 29 1 (.slice a1 ts.length c1) ts.length (intC (on.map told)), rowP 2 1 (.slice a2 ts.length c2) ts.length (intC fs), blkP rb 78 #[.slice a1 ts.length c1, .slice a2 ts.length c2, .int .i64 (kp : Int), .int .i64 wy, .int .i64 ov, .int .i64 99], blkP bN 2 (nowA (hRes all on fs kp wy ov L0).L)] ++ (wdL c (alW (alR on fs (kp : Int) wy ov) (ndW 1 5).ep L0 1 all) ++ [rowP 29 1 (.slice a0 5 cp) 5 (intC (tolds 5))])))) := Lib.hid (by
                    intro x y z hx hy hz
                    have hk := hI_keeps (al := all) (on.zip fs) L0
                    rw [HFF.out.1] at hk
                    have hkm := hM_keeps (on.drop kp) L1'
                    have hlm : (hM (on.drop kp) L1').length = 5 := by rw [hM_len]; exact HFF.out.2.2.1
                    obtain ⟨h1, h2⟩ := HXY.out i1 hi1
                    obtain ⟨h3, h4, _⟩ := HL0.out.2 i1 hi15
                    have ha : ((hM (on.drop kp) L1').getD i1 nk0).a = x0 := by rw [(hkm i1).1, (hk i1).1, h3, h1]
                    have hb : ((hM (on.drop kp) L1').getD i1 nk0).b = y0 := by rw [(hkm i1).2.1, (hk i1).2.1, h4, h2]
                    rw [HRR.out, hEndL_cons hi1]
                    have hab := hF_ab (way := wy) (old := ov) (i := i1) (L := (hM (on.drop kp) L1')) (by rw [hlm]; exact hi15)
                    rw [ha, hb] at hab
                    have hne : ¬ on = [] := fun h => by rw [h] at hi1; simp at hi1
                    refine ⟨by dsimp only; rw [if_neg hne, HOF.out.1]; have := HX.out.1; omega, HFF.out.2.2.2.1, HFF.out.2.2.2.2, by cases all <;> rfl, fun i hi h5 => ?_, by dsimp only; rw [hF_len]; exact hlm, by omega, ?_⟩
                    · rw [hi1] at hi
                      injection hi with hi
                      subst hi
                      exact ⟨hx.trans hab.1.symm, hy.trans hab.2.symm⟩
                    · dsimp only
                      rw [mrkA_congr (L := hF wy ov i1 (hM (on.drop kp) L1')) (M := (hM (on.drop kp) L1')) (hF_len) (fun i => (hF_keeps i).2), nowA_congr (L := hF wy ov i1 (hM (on.drop kp) L1')) (M := L1') (by rw [hF_len, hM_len]) (fun i => by rw [(hF_keeps i).1, (hkm i).2.2])]
                      exact hz)
                  have HY := Lib.hid HX.out.2
                  clear HX HXY HRR hi1
                  go_upto_region 56 with fail
                  rcases (by omega : wy = -1 ∨ wy = 2 ∨ wy = 0 ∨ wy = 1) with hy9 | hy9 | hy9 | hy9
                  · have hy9 := Lib.hid hy9
                    go_cut [250] from 234 to 250 (fun s250 wx => s250 = .bool false ∧ Hid (Heap w wx (blkP bF 97 #[.int .i64 x0, .int .i64 y0] :: (blkP bM 4 (mrkA (hM (on.drop kp) L1')) :: [rowP 3 1 (.slice ao ts.length co) ts.length (intC (on.map fun (i : Nat) => (i : Int))), rowP 29 1 (.slice a1 ts.length c1) ts.length (intC (on.map told)), rowP 2 1 (.slice a2 ts.length c2) ts.length (intC fs), blkP rb 78 #[.slice a1 ts.length c1, .slice a2 ts.length c2, .int .i64 (kp : Int), .int .i64 wy, .int .i64 ov, .int .i64 99], blkP bN 2 (nowA L1')] ++ (wdL c (alW (alR on fs (kp : Int) wy ov) (ndW 1 5).ep L0 1 all) ++ [rowP 29 1 (.slice a0 5 cp) 5 (intC (tolds 5))])))))
                    case first =>
                      have HZ := Lib.hid HY.out.drew
                      have B5 := HZ.out.blk 5 (b := rb) (t := 78) (c := #[.slice a1 ts.length c1, .slice a2 ts.length c2, .int .i64 (kp : Int), .int .i64 wy, .int .i64 ov, .int .i64 99]) rfl
                      have BF := HZ.out.blk 0 (b := bF) (t := 97) (c := #[.int .i64 x0, .int .i64 y0]) rfl
                      have q0 : (World.drew w20).cell? ⟨rb, 3, none⟩ = some (.int .i64 (-1)) ∧ (World.drew w20).cell? ⟨rb, 4, none⟩ = some (.int .i64 ov) ∧ (World.drew w20).cell? ⟨bF, 0, none⟩ = some (.int .i64 x0) ∧ (World.drew w20).cell? ⟨bF, 1, none⟩ = some (.int .i64 y0) := ⟨by have h : World.cell? _ ⟨rb, 3, none⟩ = some (.int .i64 wy) := B5.cell 3; rw [hy9.out] at h; exact h, B5.cell 4, BF.cell 0, BF.cell 1⟩
                      clear B5 BF
                      as_aux_lemma =>
                        refine wp_region_noPanic ?_
                        refine AnyK.start (ks := []) (S := fun w' => w'.cell? ⟨rb, 3, none⟩ = some (.int .i64 (-1)) ∧ w'.cell? ⟨rb, 4, none⟩ = some (.int .i64 ov) ∧ w'.cell? ⟨bF, 0, none⟩ = some (.int .i64 x0) ∧ w'.cell? ⟨bF, 1, none⟩ = some (.int .i64 y0)) (by kernel_rfl) (by exact q0) (fun _ => ?_)
                        refine AnyK.take (i := 0) (v := ?_) rfl (by kernel_rfl) (by kernel_rfl) (by kernel_rfl) (by kernel_rfl) (fun _ _ _ h => h) (Or.inl ⟨by rfl, ?_⟩) (by exact q0) ?_
                        rotate_left
                        focus
                          intro w9 hSw
                          try dsimp only at hSw
                          go_simp
                          try with_reducible rfl
                        try simp only [Act.put, List.getElem_toArray, List.getElem_cons_zero, List.getElem_cons_succ, List.setIfInBounds_toArray, List.set_cons_zero, List.set_cons_succ]
                        refine AnyK.take (i := 1) (v := ?_) rfl (by kernel_rfl) (by kernel_rfl) (by kernel_rfl) (by kernel_rfl) (fun _ _ _ h => h) (Or.inl ⟨by rfl, ?_⟩) (by exact q0) ?_
                        rotate_left
                        focus
                          intro w9 hSw
                          try dsimp only at hSw
                          go_simp
                          try with_reducible rfl
                        try simp only [Act.put, List.getElem_toArray, List.getElem_cons_zero, List.getElem_cons_succ, List.setIfInBounds_toArray, List.set_cons_zero, List.set_cons_succ]
                        refine AnyK.take (i := 2) (v := ?_) rfl (by kernel_rfl) (by kernel_rfl) (by kernel_rfl) (by kernel_rfl) (fun _ _ _ h => h) (Or.inl ⟨by rfl, ?_⟩) (by exact q0) ?_
                        rotate_left
                        focus
                          intro w9 hSw
                          try dsimp only at hSw
                          go_simp
                          try with_reducible rfl
                        try simp only [Act.put, List.getElem_toArray, List.getElem_cons_zero, List.getElem_cons_succ, List.setIfInBounds_toArray, List.set_cons_zero, List.set_cons_succ]
                        refine AnyK.take (i := 3) (v := ?_) rfl (by kernel_rfl) (by kernel_rfl) (by kernel_rfl) (by kernel_rfl) (fun _ _ _ h => h) (Or.inl ⟨by rfl, ?_⟩) (by exact q0) ?_
                        rotate_left
                        focus
                          intro w9 hSw
                          try dsimp only at hSw
                          go_simp
                          try with_reducible rfl
                        try simp only [Act.put, List.getElem_toArray, List.getElem_cons_zero, List.getElem_cons_succ, List.setIfInBounds_toArray, List.set_cons_zero, List.set_cons_succ]
                        refine AnyK.take (i := 4) (v := undef) rfl (by kernel_rfl) (by kernel_rfl) (by kernel_rfl) (by kernel_rfl) (fun _ _ _ h => h) (Or.inr ⟨by kernel_rfl, rfl⟩) (by exact q0) ?_
                        try simp only [Act.put, List.getElem_toArray, List.getElem_cons_zero, List.getElem_cons_succ, List.setIfInBounds_toArray, List.set_cons_zero, List.set_cons_succ]
                        refine AnyK.take (i := 5) (v := undef) rfl (by kernel_rfl) (by kernel_rfl) (by kernel_rfl) (by kernel_rfl) (fun _ _ _ h => h) (Or.inr ⟨by kernel_rfl, rfl⟩) (by exact q0) ?_
                        try simp only [Act.put, List.getElem_toArray, List.getElem_cons_zero, List.getElem_cons_succ, List.setIfInBounds_toArray, List.set_cons_zero, List.set_cons_succ]
                        refine AnyK.take (i := 6) (v := undef) rfl (by kernel_rfl) (by kernel_rfl) (by kernel_rfl) (by kernel_rfl) (fun _ _ _ h => h) (Or.inr ⟨by kernel_rfl, rfl⟩) (by exact q0) ?_
                        try simp only [Act.put, List.getElem_toArray, List.getElem_cons_zero, List.getElem_cons_succ, List.setIfInBounds_toArray, List.set_cons_zero, List.set_cons_succ]
                        refine AnyK.take (i := 7) (v := ?_) rfl (by kernel_rfl) (by kernel_rfl) (by kernel_rfl) (by kernel_rfl) (fun _ _ _ h => h) (Or.inl ⟨by rfl, ?_⟩) (by exact q0) ?_
                        rotate_left
                        focus
                          intro w9 hSw
                          try dsimp only at hSw
                          go_simp
                          try with_reducible rfl
                        try simp only [Act.put, List.getElem_toArray, List.getElem_cons_zero, List.getElem_cons_succ, List.setIfInBounds_toArray, List.set_cons_zero, List.set_cons_succ]
                        refine AnyK.take (i := 8) (v := ?_) rfl (by kernel_rfl) (by kernel_rfl) (by kernel_rfl) (by kernel_rfl) (fun _ _ _ h => h) (Or.inl ⟨by rfl, ?_⟩) (by exact q0) ?_
                        rotate_left
                        focus
                          intro w9 hSw
                          try dsimp only at hSw
                          go_simp
                          try with_reducible rfl
                        try simp only [Act.put, List.getElem_toArray, List.getElem_cons_zero, List.getElem_cons_succ, List.setIfInBounds_toArray, List.set_cons_zero, List.set_cons_succ]
                        refine AnyK.take (i := 9) (v := undef) rfl (by kernel_rfl) (by kernel_rfl) (by kernel_rfl) (by kernel_rfl) (fun _ _ _ h => h) (Or.inr ⟨by kernel_rfl, rfl⟩) (by exact q0) ?_
                        try simp only [Act.put, List.getElem_toArray, List.getElem_cons_zero, List.getElem_cons_succ, List.setIfInBounds_toArray, List.set_cons_zero, List.set_cons_succ]
                        refine AnyK.take (i := 10) (v := undef) rfl (by kernel_rfl) (by kernel_rfl) (by kernel_rfl) (by kernel_rfl) (fun _ _ _ h => h) (Or.inr ⟨by kernel_rfl, rfl⟩) (by exact q0) ?_
                        try simp only [Act.put, List.getElem_toArray, List.getElem_cons_zero, List.getElem_cons_succ, List.setIfInBounds_toArray, List.set_cons_zero, List.set_cons_succ]
                        refine AnyK.take (i := 11) (v := undef) rfl (by kernel_rfl) (by kernel_rfl) (by kernel_rfl) (by kernel_rfl) (fun _ _ _ h => h) (Or.inr ⟨by kernel_rfl, rfl⟩) (by exact q0) ?_
                        try simp only [Act.put, List.getElem_toArray, List.getElem_cons_zero, List.getElem_cons_succ, List.setIfInBounds_toArray, List.set_cons_zero, List.set_cons_succ]
                        refine AnyK.take (i := 12) (v := undef) rfl (by kernel_rfl) (by kernel_rfl) (by kernel_rfl) (by kernel_rfl) (fun _ _ _ h => h) (Or.inr ⟨by kernel_rfl, rfl⟩) (by exact q0) ?_
                        try simp only [Act.put, List.getElem_toArray, List.getElem_cons_zero, List.getElem_cons_succ, List.setIfInBounds_toArray, List.set_cons_zero, List.set_cons_succ]
                        refine AnyK.take (i := 13) (v := undef) rfl (by kernel_rfl) (by kernel_rfl) (by kernel_rfl) (by kernel_rfl) (fun _ _ _ h => h) (Or.inr ⟨by kernel_rfl, rfl⟩) (by exact q0) ?_
                        try simp only [Act.put, List.getElem_toArray, List.getElem_cons_zero, List.getElem_cons_succ, List.setIfInBounds_toArray, List.set_cons_zero, List.set_cons_succ]
                        refine AnyK.take (i := 14) (v := undef) rfl (by kernel_rfl) (by kernel_rfl) (by kernel_rfl) (by kernel_rfl) (fun _ _ _ h => h) (Or.inr ⟨by kernel_rfl, rfl⟩) (by exact q0) ?_
                        try simp only [Act.put, List.getElem_toArray, List.getElem_cons_zero, List.getElem_cons_succ, List.setIfInBounds_toArray, List.set_cons_zero, List.set_cons_succ]
                        refine AnyK.take (i := 15) (v := undef) rfl (by kernel_rfl) (by kernel_rfl) (by kernel_rfl) (by kernel_rfl) (fun _ _ _ h => h) (Or.inr ⟨by kernel_rfl, rfl⟩) (by exact q0) ?_
                        try simp only [Act.put, List.getElem_toArray, List.getElem_cons_zero, List.getElem_cons_succ, List.setIfInBounds_toArray, List.set_cons_zero, List.set_cons_succ]
                        refine AnyK.take (i := 16) (v := .bool false) rfl (by kernel_rfl) (by kernel_rfl) (by kernel_rfl) (by kernel_rfl) (fun _ _ _ h => h) (Or.inl ⟨by kernel_rfl, ?_⟩) (by exact q0) ?_
                        focus
                          intro w9 hSw
                          try dsimp only at hSw
                          go_simp
                        try simp only [Act.put, List.getElem_toArray, List.getElem_cons_zero, List.getElem_cons_succ, List.setIfInBounds_toArray, List.set_cons_zero, List.set_cons_succ]
                        refine AnyK.done (by kernel_rfl) ?_ _
                        refine NoPanic.normal ?_
                        clear q0
                        go_wp2_with fail
                        go_meet
                        exact ⟨rfl, HZ⟩
                    case rest =>
                    obtain ⟨rfl, HZ⟩ := hcut
                    clear HY
                    rename World => w21
                    have HX := Lib.hid (FIN.out x0 y0 w21 (by simp [hy9.out]) (by simp [hy9.out]) HZ.out)
                    clear FIN
                    go_wp2_with fail
                    go_meet
                    exact ⟨m + 1, x0, y0, by go_num, HX⟩
                  · have hy9 := Lib.hid hy9
                    go_cut [250] from 234 to 250 (fun s250 wx => s250 = .bool false ∧ Hid (Heap w wx (blkP bF 97 #[.int .i64 x0, .int .i64 y0] :: (blkP bM 4 (mrkA (hM (on.drop kp) L1')) :: [rowP 3 1 (.slice ao ts.length co) ts.length (intC (on.map fun (i : Nat) => (i : Int))), rowP 29 1 (.slice a1 ts.length c1) ts.length (intC (on.map told)), rowP 2 1 (.slice a2 ts.length c2) ts.length (intC fs), blkP rb 78 #[.slice a1 ts.length c1, .slice a2 ts.length c2, .int .i64 (kp : Int), .int .i64 wy, .int .i64 ov, .int .i64 99], blkP bN 2 (nowA L1')] ++ (wdL c (alW (alR on fs (kp : Int) wy ov) (ndW 1 5).ep L0 1 all) ++ [rowP 29 1 (.slice a0 5 cp) 5 (intC (tolds 5))])))))
                    case first =>
                      have HZ := Lib.hid HY.out.drew
                      have B5 := HZ.out.blk 5 (b := rb) (t := 78) (c := #[.slice a1 ts.length c1, .slice a2 ts.length c2, .int .i64 (kp : Int), .int .i64 wy, .int .i64 ov, .int .i64 99]) rfl
                      have BF := HZ.out.blk 0 (b := bF) (t := 97) (c := #[.int .i64 x0, .int .i64 y0]) rfl
                      have q0 : (World.drew w20).cell? ⟨rb, 3, none⟩ = some (.int .i64 (2)) ∧ (World.drew w20).cell? ⟨rb, 4, none⟩ = some (.int .i64 ov) ∧ (World.drew w20).cell? ⟨bF, 0, none⟩ = some (.int .i64 x0) ∧ (World.drew w20).cell? ⟨bF, 1, none⟩ = some (.int .i64 y0) := ⟨by have h : World.cell? _ ⟨rb, 3, none⟩ = some (.int .i64 wy) := B5.cell 3; rw [hy9.out] at h; exact h, B5.cell 4, BF.cell 0, BF.cell 1⟩
                      clear B5 BF
                      as_aux_lemma =>
                        refine wp_region_noPanic ?_
                        refine AnyK.start (ks := []) (S := fun w' => w'.cell? ⟨rb, 3, none⟩ = some (.int .i64 (2)) ∧ w'.cell? ⟨rb, 4, none⟩ = some (.int .i64 ov) ∧ w'.cell? ⟨bF, 0, none⟩ = some (.int .i64 x0) ∧ w'.cell? ⟨bF, 1, none⟩ = some (.int .i64 y0)) (by kernel_rfl) (by exact q0) (fun _ => ?_)
                        refine AnyK.take (i := 0) (v := ?_) rfl (by kernel_rfl) (by kernel_rfl) (by kernel_rfl) (by kernel_rfl) (fun _ _ _ h => h) (Or.inl ⟨by rfl, ?_⟩) (by exact q0) ?_
                        rotate_left
                        focus
                          intro w9 hSw
                          try dsimp only at hSw
                          go_simp
                          try with_reducible rfl
                        try simp only [Act.put, List.getElem_toArray, List.getElem_cons_zero, List.getElem_cons_succ, List.setIfInBounds_toArray, List.set_cons_zero, List.set_cons_succ]
                        refine AnyK.take (i := 1) (v := ?_) rfl (by kernel_rfl) (by kernel_rfl) (by kernel_rfl) (by kernel_rfl) (fun _ _ _ h => h) (Or.inl ⟨by rfl, ?_⟩) (by exact q0) ?_
                        rotate_left
                        focus
                          intro w9 hSw
                          try dsimp only at hSw
                          go_simp
                          try with_reducible rfl
                        try simp only [Act.put, List.getElem_toArray, List.getElem_cons_zero, List.getElem_cons_succ, List.setIfInBounds_toArray, List.set_cons_zero, List.set_cons_succ]
                        refine AnyK.take (i := 2) (v := ?_) rfl (by kernel_rfl) (by kernel_rfl) (by kernel_rfl) (by kernel_rfl) (fun _ _ _ h => h) (Or.inl ⟨by rfl, ?_⟩) (by exact q0) ?_
                        rotate_left
                        focus
                          intro w9 hSw
                          try dsimp only at hSw
                          go_simp
                          try with_reducible rfl
                        try simp only [Act.put, List.getElem_toArray, List.getElem_cons_zero, List.getElem_cons_succ, List.setIfInBounds_toArray, List.set_cons_zero, List.set_cons_succ]
                        refine AnyK.take (i := 3) (v := ?_) rfl (by kernel_rfl) (by kernel_rfl) (by kernel_rfl) (by kernel_rfl) (fun _ _ _ h => h) (Or.inl ⟨by rfl, ?_⟩) (by exact q0) ?_
                        rotate_left
                        focus
                          intro w9 hSw
                          try dsimp only at hSw
                          go_simp
                          try with_reducible rfl
                        try simp only [Act.put, List.getElem_toArray, List.getElem_cons_zero, List.getElem_cons_succ, List.setIfInBounds_toArray, List.set_cons_zero, List.set_cons_succ]
                        refine AnyK.take (i := 4) (v := ?_) rfl (by kernel_rfl) (by kernel_rfl) (by kernel_rfl) (by kernel_rfl) (fun _ _ _ h => h) (Or.inl ⟨by kernel_rfl, ?_⟩) (by exact q0) ?_
                        rotate_left
                        focus
                          intro w9 hSw
                          try dsimp only at hSw
                          go_simp
                          try with_reducible rfl
                        try simp only [Act.put, List.getElem_toArray, List.getElem_cons_zero, List.getElem_cons_succ, List.setIfInBounds_toArray, List.set_cons_zero, List.set_cons_succ]
                        refine AnyK.take (i := 5) (v := ?_) rfl (by kernel_rfl) (by kernel_rfl) (by kernel_rfl) (by kernel_rfl) (fun _ _ _ h => h) (Or.inl ⟨by kernel_rfl, ?_⟩) (by exact q0) ?_
                        rotate_left
                        focus
                          intro w9 hSw
                          try dsimp only at hSw
                          go_simp
                          try with_reducible rfl
                        try simp only [Act.put, List.getElem_toArray, List.getElem_cons_zero, List.getElem_cons_succ, List.setIfInBounds_toArray, List.set_cons_zero, List.set_cons_succ]
                        refine AnyK.take (i := 6) (v := ?_) rfl (by kernel_rfl) (by kernel_rfl) (by kernel_rfl) (by kernel_rfl) (fun _ _ _ h => h) (Or.inl ⟨by kernel_rfl, ?_⟩) (by exact q0) ?_
                        rotate_left
                        focus
                          intro w9 hSw
                          try dsimp only at hSw
                          go_simp
                          try with_reducible rfl
                        try simp only [Act.put, List.getElem_toArray, List.getElem_cons_zero, List.getElem_cons_succ, List.setIfInBounds_toArray, List.set_cons_zero, List.set_cons_succ]
                        refine AnyK.take (i := 7) (v := ?_) rfl (by kernel_rfl) (by kernel_rfl) (by kernel_rfl) (by kernel_rfl) (fun _ _ _ h => h) (Or.inl ⟨by rfl, ?_⟩) (by exact q0) ?_
                        rotate_left
                        focus
                          intro w9 hSw
                          try dsimp only at hSw
                          go_simp
                          try with_reducible rfl
                        try simp only [Act.put, List.getElem_toArray, List.getElem_cons_zero, List.getElem_cons_succ, List.setIfInBounds_toArray, List.set_cons_zero, List.set_cons_succ]
                        refine AnyK.take (i := 8) (v := ?_) rfl (by kernel_rfl) (by kernel_rfl) (by kernel_rfl) (by kernel_rfl) (fun _ _ _ h => h) (Or.inl ⟨by rfl, ?_⟩) (by exact q0) ?_
                        rotate_left
                        focus
                          intro w9 hSw
                          try dsimp only at hSw
                          go_simp
                          try with_reducible rfl
                        try simp only [Act.put, List.getElem_toArray, List.getElem_cons_zero, List.getElem_cons_succ, List.setIfInBounds_toArray, List.set_cons_zero, List.set_cons_succ]
                        refine AnyK.take (i := 9) (v := undef) rfl (by kernel_rfl) (by kernel_rfl) (by kernel_rfl) (by kernel_rfl) (fun _ _ _ h => h) (Or.inr ⟨by kernel_rfl, rfl⟩) (by exact q0) ?_
                        try simp only [Act.put, List.getElem_toArray, List.getElem_cons_zero, List.getElem_cons_succ, List.setIfInBounds_toArray, List.set_cons_zero, List.set_cons_succ]
                        refine AnyK.take (i := 10) (v := undef) rfl (by kernel_rfl) (by kernel_rfl) (by kernel_rfl) (by kernel_rfl) (fun _ _ _ h => h) (Or.inr ⟨by kernel_rfl, rfl⟩) (by exact q0) ?_
                        try simp only [Act.put, List.getElem_toArray, List.getElem_cons_zero, List.getElem_cons_succ, List.setIfInBounds_toArray, List.set_cons_zero, List.set_cons_succ]
                        refine AnyK.take (i := 11) (v := undef) rfl (by kernel_rfl) (by kernel_rfl) (by kernel_rfl) (by kernel_rfl) (fun _ _ _ h => h) (Or.inr ⟨by kernel_rfl, rfl⟩) (by exact q0) ?_
                        try simp only [Act.put, List.getElem_toArray, List.getElem_cons_zero, List.getElem_cons_succ, List.setIfInBounds_toArray, List.set_cons_zero, List.set_cons_succ]
                        refine AnyK.take (i := 12) (v := undef) rfl (by kernel_rfl) (by kernel_rfl) (by kernel_rfl) (by kernel_rfl) (fun _ _ _ h => h) (Or.inr ⟨by kernel_rfl, rfl⟩) (by exact q0) ?_
                        try simp only [Act.put, List.getElem_toArray, List.getElem_cons_zero, List.getElem_cons_succ, List.setIfInBounds_toArray, List.set_cons_zero, List.set_cons_succ]
                        refine AnyK.take (i := 13) (v := undef) rfl (by kernel_rfl) (by kernel_rfl) (by kernel_rfl) (by kernel_rfl) (fun _ _ _ h => h) (Or.inr ⟨by kernel_rfl, rfl⟩) (by exact q0) ?_
                        try simp only [Act.put, List.getElem_toArray, List.getElem_cons_zero, List.getElem_cons_succ, List.setIfInBounds_toArray, List.set_cons_zero, List.set_cons_succ]
                        refine AnyK.take (i := 14) (v := undef) rfl (by kernel_rfl) (by kernel_rfl) (by kernel_rfl) (by kernel_rfl) (fun _ _ _ h => h) (Or.inr ⟨by kernel_rfl, rfl⟩) (by exact q0) ?_
                        try simp only [Act.put, List.getElem_toArray, List.getElem_cons_zero, List.getElem_cons_succ, List.setIfInBounds_toArray, List.set_cons_zero, List.set_cons_succ]
                        refine AnyK.take (i := 15) (v := undef) rfl (by kernel_rfl) (by kernel_rfl) (by kernel_rfl) (by kernel_rfl) (fun _ _ _ h => h) (Or.inr ⟨by kernel_rfl, rfl⟩) (by exact q0) ?_
                        try simp only [Act.put, List.getElem_toArray, List.getElem_cons_zero, List.getElem_cons_succ, List.setIfInBounds_toArray, List.set_cons_zero, List.set_cons_succ]
                        refine AnyK.take (i := 16) (v := .bool false) rfl (by kernel_rfl) (by kernel_rfl) (by kernel_rfl) (by kernel_rfl) (fun _ _ _ h => h) (Or.inl ⟨by kernel_rfl, ?_⟩) (by exact q0) ?_
                        focus
                          intro w9 hSw
                          try dsimp only at hSw
                          go_simp
                        try simp only [Act.put, List.getElem_toArray, List.getElem_cons_zero, List.getElem_cons_succ, List.setIfInBounds_toArray, List.set_cons_zero, List.set_cons_succ]
                        refine AnyK.done (by kernel_rfl) ?_ _
                        refine NoPanic.normal ?_
                        clear q0
                        go_wp2_with fail
                        go_meet
                        exact ⟨rfl, HZ⟩
                    case rest =>
                    obtain ⟨rfl, HZ⟩ := hcut
                    clear HY
                    rename World => w21
                    have HX := Lib.hid (FIN.out x0 y0 w21 (by simp [hy9.out]) (by simp [hy9.out]) HZ.out)
                    clear FIN
                    go_wp2_with fail
                    go_meet
                    exact ⟨m + 1, x0, y0, by go_num, HX⟩
                  · have hy9 := Lib.hid hy9
                    by_cases e9 : x0 = ov
                    · have fb : (x0 == ov) = true := beq_iff_eq.2 e9
                      have e9 := Lib.hid e9
                      go_cut [250] from 234 to 250 (fun s250 wx => s250 = .bool true ∧ Hid (Heap w wx (blkP bF 97 #[.int .i64 x0, .int .i64 y0] :: (blkP bM 4 (mrkA (hM (on.drop kp) L1')) :: [rowP 3 1 (.slice ao ts.length co) ts.length (intC (on.map fun (i : Nat) => (i : Int))), rowP 29 1 (.slice a1 ts.length c1) ts.length (intC (on.map told)), rowP 2 1 (.slice a2 ts.length c2) ts.length (intC fs), blkP rb 78 #[.slice a1 ts.length c1, .slice a2 ts.length c2, .int .i64 (kp : Int), .int .i64 wy, .int .i64 ov, .int .i64 99], blkP bN 2 (nowA L1')] ++ (wdL c (alW (alR on fs (kp : Int) wy ov) (ndW 1 5).ep L0 1 all) ++ [rowP 29 1 (.slice a0 5 cp) 5 (intC (tolds 5))])))))
                      case first =>
                        have HZ := Lib.hid HY.out.drew
                        have B5 := HZ.out.blk 5 (b := rb) (t := 78) (c := #[.slice a1 ts.length c1, .slice a2 ts.length c2, .int .i64 (kp : Int), .int .i64 wy, .int .i64 ov, .int .i64 99]) rfl
                        have BF := HZ.out.blk 0 (b := bF) (t := 97) (c := #[.int .i64 x0, .int .i64 y0]) rfl
                        have q0 : (World.drew w20).cell? ⟨rb, 3, none⟩ = some (.int .i64 (0)) ∧ (World.drew w20).cell? ⟨rb, 4, none⟩ = some (.int .i64 ov) ∧ (World.drew w20).cell? ⟨bF, 0, none⟩ = some (.int .i64 x0) ∧ (World.drew w20).cell? ⟨bF, 1, none⟩ = some (.int .i64 y0) := ⟨by have h : World.cell? _ ⟨rb, 3, none⟩ = some (.int .i64 wy) := B5.cell 3; rw [hy9.out] at h; exact h, B5.cell 4, BF.cell 0, BF.cell 1⟩
                        clear B5 BF
                        as_aux_lemma =>
                          refine wp_region_noPanic ?_
                          refine AnyK.start (ks := []) (S := fun w' => w'.cell? ⟨rb, 3, none⟩ = some (.int .i64 (0)) ∧ w'.cell? ⟨rb, 4, none⟩ = some (.int .i64 ov) ∧ w'.cell? ⟨bF, 0, none⟩ = some (.int .i64 x0) ∧ w'.cell? ⟨bF, 1, none⟩ = some (.int .i64 y0)) (by kernel_rfl) (by exact q0) (fun _ => ?_)
                          refine AnyK.take (i := 0) (v := ?_) rfl (by kernel_rfl) (by kernel_rfl) (by kernel_rfl) (by kernel_rfl) (fun _ _ _ h => h) (Or.inl ⟨by rfl, ?_⟩) (by exact q0) ?_
                          rotate_left
                          focus
                            intro w9 hSw
                            try dsimp only at hSw
                            go_simp
                            try with_reducible rfl
                          try simp only [Act.put, List.getElem_toArray, List.getElem_cons_zero, List.getElem_cons_succ, List.setIfInBounds_toArray, List.set_cons_zero, List.set_cons_succ]
                          refine AnyK.take (i := 1) (v := ?_) rfl (by kernel_rfl) (by kernel_rfl) (by kernel_rfl) (by kernel_rfl) (fun _ _ _ h => h) (Or.inl ⟨by rfl, ?_⟩) (by exact q0) ?_
                          rotate_left
                          focus
                            intro w9 hSw
                            try dsimp only at hSw
                            go_simp
                            try with_reducible rfl
                          try simp only [Act.put, List.getElem_toArray, List.getElem_cons_zero, List.getElem_cons_succ, List.setIfInBounds_toArray, List.set_cons_zero, List.set_cons_succ]
                          refine AnyK.take (i := 2) (v := ?_) rfl (by kernel_rfl) (by kernel_rfl) (by kernel_rfl) (by kernel_rfl) (fun _ _ _ h => h) (Or.inl ⟨by rfl, ?_⟩) (by exact q0) ?_
                          rotate_left
                          focus
                            intro w9 hSw
                            try dsimp only at hSw
                            go_simp
                            try with_reducible rfl
                          try simp only [Act.put, List.getElem_toArray, List.getElem_cons_zero, List.getElem_cons_succ, List.setIfInBounds_toArray, List.set_cons_zero, List.set_cons_succ]
                          refine AnyK.take (i := 3) (v := ?_) rfl (by kernel_rfl) (by kernel_rfl) (by kernel_rfl) (by kernel_rfl) (fun _ _ _ h => h) (Or.inl ⟨by rfl, ?_⟩) (by exact q0) ?_
                          rotate_left
                          focus
                            intro w9 hSw
                            try dsimp only at hSw
                            go_simp
                            try with_reducible rfl
                          try simp only [Act.put, List.getElem_toArray, List.getElem_cons_zero, List.getElem_cons_succ, List.setIfInBounds_toArray, List.set_cons_zero, List.set_cons_succ]
                          refine AnyK.take (i := 4) (v := ?_) rfl (by kernel_rfl) (by kernel_rfl) (by kernel_rfl) (by kernel_rfl) (fun _ _ _ h => h) (Or.inl ⟨by kernel_rfl, ?_⟩) (by exact q0) ?_
                          rotate_left
                          focus
                            intro w9 hSw
                            try dsimp only at hSw
                            go_simp
                            try with_reducible rfl
                          try simp only [Act.put, List.getElem_toArray, List.getElem_cons_zero, List.getElem_cons_succ, List.setIfInBounds_toArray, List.set_cons_zero, List.set_cons_succ]
                          refine AnyK.take (i := 5) (v := ?_) rfl (by kernel_rfl) (by kernel_rfl) (by kernel_rfl) (by kernel_rfl) (fun _ _ _ h => h) (Or.inl ⟨by kernel_rfl, ?_⟩) (by exact q0) ?_
                          rotate_left
                          focus
                            intro w9 hSw
                            try dsimp only at hSw
                            go_simp
                            try with_reducible rfl
                          try simp only [Act.put, List.getElem_toArray, List.getElem_cons_zero, List.getElem_cons_succ, List.setIfInBounds_toArray, List.set_cons_zero, List.set_cons_succ]
                          refine AnyK.take (i := 6) (v := ?_) rfl (by kernel_rfl) (by kernel_rfl) (by kernel_rfl) (by kernel_rfl) (fun _ _ _ h => h) (Or.inl ⟨by kernel_rfl, ?_⟩) (by exact q0) ?_
                          rotate_left
                          focus
                            intro w9 hSw
                            try dsimp only at hSw
                            go_simp
                            try with_reducible rfl
                          try simp only [Act.put, List.getElem_toArray, List.getElem_cons_zero, List.getElem_cons_succ, List.setIfInBounds_toArray, List.set_cons_zero, List.set_cons_succ]
                          refine AnyK.take (i := 7) (v := ?_) rfl (by kernel_rfl) (by kernel_rfl) (by kernel_rfl) (by kernel_rfl) (fun _ _ _ h => h) (Or.inl ⟨by rfl, ?_⟩) (by exact q0) ?_
                          rotate_left
                          focus
                            intro w9 hSw
                            try dsimp only at hSw
                            go_simp
                            try with_reducible rfl
                          try simp only [Act.put, List.getElem_toArray, List.getElem_cons_zero, List.getElem_cons_succ, List.setIfInBounds_toArray, List.set_cons_zero, List.set_cons_succ]
                          refine AnyK.take (i := 8) (v := ?_) rfl (by kernel_rfl) (by kernel_rfl) (by kernel_rfl) (by kernel_rfl) (fun _ _ _ h => h) (Or.inl ⟨by rfl, ?_⟩) (by exact q0) ?_
                          rotate_left
                          focus
                            intro w9 hSw
                            try dsimp only at hSw
                            go_simp
                            try with_reducible rfl
                          try simp only [Act.put, List.getElem_toArray, List.getElem_cons_zero, List.getElem_cons_succ, List.setIfInBounds_toArray, List.set_cons_zero, List.set_cons_succ]
                          refine AnyK.take (i := 9) (v := ?_) rfl (by kernel_rfl) (by kernel_rfl) (by kernel_rfl) (by kernel_rfl) (fun _ _ _ h => h) (Or.inl ⟨by kernel_rfl, ?_⟩) (by exact q0) ?_
                          rotate_left
                          focus
                            intro w9 hSw
                            try dsimp only at hSw
                            go_simp
                            try with_reducible rfl
                          try simp only [Act.put, List.getElem_toArray, List.getElem_cons_zero, List.getElem_cons_succ, List.setIfInBounds_toArray, List.set_cons_zero, List.set_cons_succ]
                          refine AnyK.take (i := 10) (v := ?_) rfl (by kernel_rfl) (by kernel_rfl) (by kernel_rfl) (by kernel_rfl) (fun _ _ _ h => h) (Or.inl ⟨by kernel_rfl, ?_⟩) (by exact q0) ?_
                          rotate_left
                          focus
                            intro w9 hSw
                            try dsimp only at hSw
                            go_simp
                            try with_reducible rfl
                          try simp only [Act.put, List.getElem_toArray, List.getElem_cons_zero, List.getElem_cons_succ, List.setIfInBounds_toArray, List.set_cons_zero, List.set_cons_succ]
                          refine AnyK.take (i := 11) (v := ?_) rfl (by kernel_rfl) (by kernel_rfl) (by kernel_rfl) (by kernel_rfl) (fun _ _ _ h => h) (Or.inl ⟨by kernel_rfl, ?_⟩) (by exact q0) ?_
                          rotate_left
                          focus
                            intro w9 hSw
                            try dsimp only at hSw
                            go_simp
                            try with_reducible rfl
                          try simp only [Act.put, List.getElem_toArray, List.getElem_cons_zero, List.getElem_cons_succ, List.setIfInBounds_toArray, List.set_cons_zero, List.set_cons_succ]
                          refine AnyK.take (i := 12) (v := ?_) rfl (by kernel_rfl) (by kernel_rfl) (by kernel_rfl) (by kernel_rfl) (fun _ _ _ h => h) (Or.inl ⟨by kernel_rfl, ?_⟩) (by exact q0) ?_
                          rotate_left
                          focus
                            intro w9 hSw
                            try dsimp only at hSw
                            go_simp
                            try with_reducible rfl
                          try simp only [Act.put, List.getElem_toArray, List.getElem_cons_zero, List.getElem_cons_succ, List.setIfInBounds_toArray, List.set_cons_zero, List.set_cons_succ]
                          refine AnyK.take (i := 13) (v := ?_) rfl (by kernel_rfl) (by kernel_rfl) (by kernel_rfl) (by kernel_rfl) (fun _ _ _ h => h) (Or.inl ⟨by kernel_rfl, ?_⟩) (by exact q0) ?_
                          rotate_left
                          focus
                            intro w9 hSw
                            try dsimp only at hSw
                            go_simp
                            try with_reducible rfl
                          try simp only [Act.put, List.getElem_toArray, List.getElem_cons_zero, List.getElem_cons_succ, List.setIfInBounds_toArray, List.set_cons_zero, List.set_cons_succ]
                          refine AnyK.take (i := 14) (v := ?_) rfl (by kernel_rfl) (by kernel_rfl) (by kernel_rfl) (by kernel_rfl) (fun _ _ _ h => h) (Or.inl ⟨by kernel_rfl, ?_⟩) (by exact q0) ?_
                          rotate_left
                          focus
                            intro w9 hSw
                            try dsimp only at hSw
                            go_simp
                            try with_reducible rfl
                          try simp only [Act.put, List.getElem_toArray, List.getElem_cons_zero, List.getElem_cons_succ, List.setIfInBounds_toArray, List.set_cons_zero, List.set_cons_succ]
                          refine AnyK.take (i := 15) (v := .bool true) rfl (by kernel_rfl) (by kernel_rfl) (by kernel_rfl) (by kernel_rfl) (fun _ _ _ h => h) (Or.inl ⟨by kernel_rfl, ?_⟩) (by exact q0) ?_
                          focus
                            intro w9 hSw
                            try dsimp only at hSw
                            go_simp
                          try simp only [Act.put, List.getElem_toArray, List.getElem_cons_zero, List.getElem_cons_succ, List.setIfInBounds_toArray, List.set_cons_zero, List.set_cons_succ]
                          refine AnyK.take (i := 16) (v := .bool true) rfl (by kernel_rfl) (by kernel_rfl) (by kernel_rfl) (by kernel_rfl) (fun _ _ _ h => h) (Or.inl ⟨by kernel_rfl, ?_⟩) (by exact q0) ?_
                          focus
                            intro w9 hSw
                            try dsimp only at hSw
                            go_simp
                          try simp only [Act.put, List.getElem_toArray, List.getElem_cons_zero, List.getElem_cons_succ, List.setIfInBounds_toArray, List.set_cons_zero, List.set_cons_succ]
                          refine AnyK.done (by kernel_rfl) ?_ _
                          refine NoPanic.normal ?_
                          clear q0
                          go_wp2_with fail
                          go_meet
                          exact ⟨rfl, HZ⟩
                      case rest =>
                      obtain ⟨rfl, HZ⟩ := hcut
                      clear HY
                      rename World => w21
                      have q3 : World.cell? w21 ⟨rb, 3, none⟩ = some (.int .i64 (0)) := by have h : World.cell? w21 ⟨rb, 3, none⟩ = some (.int .i64 wy) := (HZ.out.blk 5 (b := rb) (t := 78) (c := #[.slice a1 ts.length c1, .slice a2 ts.length c2, .int .i64 (kp : Int), .int .i64 wy, .int .i64 ov, .int .i64 99]) rfl).cell 3; rw [hy9.out] at h; exact h
                      have BF := HZ.out.blk 0 (b := bF) (t := 97) (c := #[.int .i64 x0, .int .i64 y0]) rfl
                      have e0 : World.cell? w21 ⟨bF, 0, none⟩ = some (.int .i64 x0) := BF.cell 0
                      have f0 := BF.froz 0
                      have HX := Lib.hid (FIN.out 99 y0 (World.setCell w21 ⟨bF, 0, none⟩ (.int .i64 99)) (by simp [hy9.out, e9.out]) (by simp [hy9.out, e9.out]) (HZ.out.setCell 0 rfl 0 (.int .i64 99)))
                      clear BF FIN
                      go_wp2_with fail
                      go_meet
                      exact ⟨m + 1, 99, y0, by go_num, HX⟩
                    · have fb : (x0 == ov) = false := beq_eq_false_iff_ne.2 e9
                      have e9 := Lib.hid e9
                      go_cut [250] from 234 to 250 (fun s250 wx => s250 = .bool false ∧ Hid (Heap w wx (blkP bF 97 #[.int .i64 x0, .int .i64 y0] :: (blkP bM 4 (mrkA (hM (on.drop kp) L1')) :: [rowP 3 1 (.slice ao ts.length co) ts.length (intC (on.map fun (i : Nat) => (i : Int))), rowP 29 1 (.slice a1 ts.length c1) ts.length (intC (on.map told)), rowP 2 1 (.slice a2 ts.length c2) ts.length (intC fs), blkP rb 78 #[.slice a1 ts.length c1, .slice a2 ts.length c2, .int .i64 (kp : Int), .int .i64 wy, .int .i64 ov, .int .i64 99], blkP bN 2 (nowA L1')] ++ (wdL c (alW (alR on fs (kp : Int) wy ov) (ndW 1 5).ep L0 1 all) ++ [rowP 29 1 (.slice a0 5 cp) 5 (intC (tolds 5))])))))
                      case first =>
                        have HZ := Lib.hid HY.out.drew
                        have B5 := HZ.out.blk 5 (b := rb) (t := 78) (c := #[.slice a1 ts.length c1, .slice a2 ts.length c2, .int .i64 (kp : Int), .int .i64 wy, .int .i64 ov, .int .i64 99]) rfl
                        have BF := HZ.out.blk 0 (b := bF) (t := 97) (c := #[.int .i64 x0, .int .i64 y0]) rfl
                        have q0 : (World.drew w20).cell? ⟨rb, 3, none⟩ = some (.int .i64 (0)) ∧ (World.drew w20).cell? ⟨rb, 4, none⟩ = some (.int .i64 ov) ∧ (World.drew w20).cell? ⟨bF, 0, none⟩ = some (.int .i64 x0) ∧ (World.drew w20).cell? ⟨bF, 1, none⟩ = some (.int .i64 y0) := ⟨by have h : World.cell? _ ⟨rb, 3, none⟩ = some (.int .i64 wy) := B5.cell 3; rw [hy9.out] at h; exact h, B5.cell 4, BF.cell 0, BF.cell 1⟩
                        clear B5 BF
                        as_aux_lemma =>
                          refine wp_region_noPanic ?_
                          refine AnyK.start (ks := []) (S := fun w' => w'.cell? ⟨rb, 3, none⟩ = some (.int .i64 (0)) ∧ w'.cell? ⟨rb, 4, none⟩ = some (.int .i64 ov) ∧ w'.cell? ⟨bF, 0, none⟩ = some (.int .i64 x0) ∧ w'.cell? ⟨bF, 1, none⟩ = some (.int .i64 y0)) (by kernel_rfl) (by exact q0) (fun _ => ?_)
                          refine AnyK.take (i := 0) (v := ?_) rfl (by kernel_rfl) (by kernel_rfl) (by kernel_rfl) (by kernel_rfl) (fun _ _ _ h => h) (Or.inl ⟨by rfl, ?_⟩) (by exact q0) ?_
                          rotate_left
                          focus
                            intro w9 hSw
                            try dsimp only at hSw
                            go_simp
                            try with_reducible rfl
                          try simp only [Act.put, List.getElem_toArray, List.getElem_cons_zero, List.getElem_cons_succ, List.setIfInBounds_toArray, List.set_cons_zero, List.set_cons_succ]
                          refine AnyK.take (i := 1) (v := ?_) rfl (by kernel_rfl) (by kernel_rfl) (by kernel_rfl) (by kernel_rfl) (fun _ _ _ h => h) (Or.inl ⟨by rfl, ?_⟩) (by exact q0) ?_
                          rotate_left
                          focus
                            intro w9 hSw
                            try dsimp only at hSw
                            go_simp
                            try with_reducible rfl
                          try simp only [Act.put, List.getElem_toArray, List.getElem_cons_zero, List.getElem_cons_succ, List.setIfInBounds_toArray, List.set_cons_zero, List.set_cons_succ]
                          refine AnyK.take (i := 2) (v := ?_) rfl (by kernel_rfl) (by kernel_rfl) (by kernel_rfl) (by kernel_rfl) (fun _ _ _ h => h) (Or.inl ⟨by rfl, ?_⟩) (by exact q0) ?_
                          rotate_left
                          focus
                            intro w9 hSw
                            try dsimp only at hSw
                            go_simp
                            try with_reducible rfl
                          try simp only [Act.put, List.getElem_toArray, List.getElem_cons_zero, List.getElem_cons_succ, List.setIfInBounds_toArray, List.set_cons_zero, List.set_cons_succ]
                          refine AnyK.take (i := 3) (v := ?_) rfl (by kernel_rfl) (by kernel_rfl) (by kernel_rfl) (by kernel_rfl) (fun _ _ _ h => h) (Or.inl ⟨by rfl, ?_⟩) (by exact q0) ?_
                          rotate_left
                          focus
                            intro w9 hSw
                            try dsimp only at hSw
                            go_simp
                            try with_reducible rfl
                          try simp only [Act.put, List.getElem_toArray, List.getElem_cons_zero, List.getElem_cons_succ, List.setIfInBounds_toArray, List.set_cons_zero, List.set_cons_succ]
                          refine AnyK.take (i := 4) (v := ?_) rfl (by kernel_rfl) (by kernel_rfl) (by kernel_rfl) (by kernel_rfl) (fun _ _ _ h => h) (Or.inl ⟨by kernel_rfl, ?_⟩) (by exact q0) ?_
                          rotate_left
                          focus
                            intro w9 hSw
                            try dsimp only at hSw
                            go_simp
                            try with_reducible rfl
                          try simp only [Act.put, List.getElem_toArray, List.getElem_cons_zero, List.getElem_cons_succ, List.setIfInBounds_toArray, List.set_cons_zero, List.set_cons_succ]
                          refine AnyK.take (i := 5) (v := ?_) rfl (by kernel_rfl) (by kernel_rfl) (by kernel_rfl) (by kernel_rfl) (fun _ _ _ h => h) (Or.inl ⟨by kernel_rfl, ?_⟩) (by exact q0) ?_
                          rotate_left
                          focus
                            intro w9 hSw
                            try dsimp only at hSw
                            go_simp
                            try with_reducible rfl
                          try simp only [Act.put, List.getElem_toArray, List.getElem_cons_zero, List.getElem_cons_succ, List.setIfInBounds_toArray, List.set_cons_zero, List.set_cons_succ]
                          refine AnyK.take (i := 6) (v := ?_) rfl (by kernel_rfl) (by kernel_rfl) (by kernel_rfl) (by kernel_rfl) (fun _ _ _ h => h) (Or.inl ⟨by kernel_rfl, ?_⟩) (by exact q0) ?_
                          rotate_left
                          focus
                            intro w9 hSw
                            try dsimp only at hSw
                            go_simp
                            try with_reducible rfl
                          try simp only [Act.put, List.getElem_toArray, List.getElem_cons_zero, List.getElem_cons_succ, List.setIfInBounds_toArray, List.set_cons_zero, List.set_cons_succ]
                          refine AnyK.take (i := 7) (v := ?_) rfl (by kernel_rfl) (by kernel_rfl) (by kernel_rfl) (by kernel_rfl) (fun _ _ _ h => h) (Or.inl ⟨by rfl, ?_⟩) (by exact q0) ?_
                          rotate_left
                          focus
                            intro w9 hSw
                            try dsimp only at hSw
                            go_simp
                            try with_reducible rfl
                          try simp only [Act.put, List.getElem_toArray, List.getElem_cons_zero, List.getElem_cons_succ, List.setIfInBounds_toArray, List.set_cons_zero, List.set_cons_succ]
                          refine AnyK.take (i := 8) (v := ?_) rfl (by kernel_rfl) (by kernel_rfl) (by kernel_rfl) (by kernel_rfl) (fun _ _ _ h => h) (Or.inl ⟨by rfl, ?_⟩) (by exact q0) ?_
                          rotate_left
                          focus
                            intro w9 hSw
                            try dsimp only at hSw
                            go_simp
                            try with_reducible rfl
                          try simp only [Act.put, List.getElem_toArray, List.getElem_cons_zero, List.getElem_cons_succ, List.setIfInBounds_toArray, List.set_cons_zero, List.set_cons_succ]
                          refine AnyK.take (i := 9) (v := ?_) rfl (by kernel_rfl) (by kernel_rfl) (by kernel_rfl) (by kernel_rfl) (fun _ _ _ h => h) (Or.inl ⟨by kernel_rfl, ?_⟩) (by exact q0) ?_
                          rotate_left
                          focus
                            intro w9 hSw
                            try dsimp only at hSw
                            go_simp
                            try with_reducible rfl
                          try simp only [Act.put, List.getElem_toArray, List.getElem_cons_zero, List.getElem_cons_succ, List.setIfInBounds_toArray, List.set_cons_zero, List.set_cons_succ]
                          refine AnyK.take (i := 10) (v := ?_) rfl (by kernel_rfl) (by kernel_rfl) (by kernel_rfl) (by kernel_rfl) (fun _ _ _ h => h) (Or.inl ⟨by kernel_rfl, ?_⟩) (by exact q0) ?_
                          rotate_left
                          focus
                            intro w9 hSw
                            try dsimp only at hSw
                            go_simp
                            try with_reducible rfl
                          try simp only [Act.put, List.getElem_toArray, List.getElem_cons_zero, List.getElem_cons_succ, List.setIfInBounds_toArray, List.set_cons_zero, List.set_cons_succ]
                          refine AnyK.take (i := 11) (v := ?_) rfl (by kernel_rfl) (by kernel_rfl) (by kernel_rfl) (by kernel_rfl) (fun _ _ _ h => h) (Or.inl ⟨by kernel_rfl, ?_⟩) (by exact q0) ?_
                          rotate_left
                          focus
                            intro w9 hSw
                            try dsimp only at hSw
                            go_simp
                            try with_reducible rfl
                          try simp only [Act.put, List.getElem_toArray, List.getElem_cons_zero, List.getElem_cons_succ, List.setIfInBounds_toArray, List.set_cons_zero, List.set_cons_succ]
                          refine AnyK.take (i := 12) (v := ?_) rfl (by kernel_rfl) (by kernel_rfl) (by kernel_rfl) (by kernel_rfl) (fun _ _ _ h => h) (Or.inl ⟨by kernel_rfl, ?_⟩) (by exact q0) ?_
                          rotate_left
                          focus
                            intro w9 hSw
                            try dsimp only at hSw
                            go_simp
                            try with_reducible rfl
                          try simp only [Act.put, List.getElem_toArray, List.getElem_cons_zero, List.getElem_cons_succ, List.setIfInBounds_toArray, List.set_cons_zero, List.set_cons_succ]
                          refine AnyK.take (i := 13) (v := ?_) rfl (by kernel_rfl) (by kernel_rfl) (by kernel_rfl) (by kernel_rfl) (fun _ _ _ h => h) (Or.inl ⟨by kernel_rfl, ?_⟩) (by exact q0) ?_
                          rotate_left
                          focus
                            intro w9 hSw
                            try dsimp only at hSw
                            go_simp
                            try with_reducible rfl
                          try simp only [Act.put, List.getElem_toArray, List.getElem_cons_zero, List.getElem_cons_succ, List.setIfInBounds_toArray, List.set_cons_zero, List.set_cons_succ]
                          refine AnyK.take (i := 14) (v := ?_) rfl (by kernel_rfl) (by kernel_rfl) (by kernel_rfl) (by kernel_rfl) (fun _ _ _ h => h) (Or.inl ⟨by kernel_rfl, ?_⟩) (by exact q0) ?_
                          rotate_left
                          focus
                            intro w9 hSw
                            try dsimp only at hSw
                            go_simp
                            try with_reducible rfl
                          try simp only [Act.put, List.getElem_toArray, List.getElem_cons_zero, List.getElem_cons_succ, List.setIfInBounds_toArray, List.set_cons_zero, List.set_cons_succ]
                          refine AnyK.take (i := 15) (v := .bool false) rfl (by kernel_rfl) (by kernel_rfl) (by kernel_rfl) (by kernel_rfl) (fun _ _ _ h => h) (Or.inl ⟨by kernel_rfl, ?_⟩) (by exact q0) ?_
                          focus
                            intro w9 hSw
                            try dsimp only at hSw
                            go_simp
                          try simp only [Act.put, List.getElem_toArray, List.getElem_cons_zero, List.getElem_cons_succ, List.setIfInBounds_toArray, List.set_cons_zero, List.set_cons_succ]
                          refine AnyK.take (i := 16) (v := .bool false) rfl (by kernel_rfl) (by kernel_rfl) (by kernel_rfl) (by kernel_rfl) (fun _ _ _ h => h) (Or.inl ⟨by kernel_rfl, ?_⟩) (by exact q0) ?_
                          focus
                            intro w9 hSw
                            try dsimp only at hSw
                            go_simp
                          try simp only [Act.put, List.getElem_toArray, List.getElem_cons_zero, List.getElem_cons_succ, List.setIfInBounds_toArray, List.set_cons_zero, List.set_cons_succ]
                          refine AnyK.done (by kernel_rfl) ?_ _
                          refine NoPanic.normal ?_
                          clear q0
                          go_wp2_with fail
                          go_meet
                          exact ⟨rfl, HZ⟩
                      case rest =>
                      obtain ⟨rfl, HZ⟩ := hcut
                      clear HY
                      rename World => w21
                      have HX := Lib.hid (FIN.out x0 y0 w21 (by simp [hy9.out, e9.out]) (by simp [hy9.out, e9.out]) HZ.out)
                      clear FIN
                      go_wp2_with fail
                      go_meet
                      exact ⟨m + 1, x0, y0, by go_num, HX⟩
                  · have hy9 := Lib.hid hy9
                    by_cases e9 : y0 = ov
                    · have fb : (y0 == ov) = true := beq_iff_eq.2 e9
                      have e9 := Lib.hid e9
                      go_cut [250] from 234 to 250 (fun s250 wx => s250 = .bool true ∧ Hid (Heap w wx (blkP bF 97 #[.int .i64 x0, .int .i64 y0] :: (blkP bM 4 (mrkA (hM (on.drop kp) L1')) :: [rowP 3 1 (.slice ao ts.length co) ts.length (intC (on.map fun (i : Nat) => (i : Int))), rowP 29 1 (.slice a1 ts.length c1) ts.length (intC (on.map told)), rowP 2 1 (.slice a2 ts.length c2) ts.length (intC fs), blkP rb 78 #[.slice a1 ts.length c1, .slice a2 ts.length c2, .int .i64 (kp : Int), .int .i64 wy, .int .i64 ov, .int .i64 99], blkP bN 2 (nowA L1')] ++ (wdL c (alW (alR on fs (kp : Int) wy ov) (ndW 1 5).ep L0 1 all) ++ [rowP 29 1 (.slice a0 5 cp) 5 (intC (tolds 5))])))))
                      case first =>
                        have HZ := Lib.hid HY.out.drew
                        have B5 := HZ.out.blk 5 (b := rb) (t := 78) (c := #[.slice a1 ts.length c1, .slice a2 ts.length c2, .int .i64 (kp : Int), .int .i64 wy, .int .i64 ov, .int .i64 99]) rfl
                        have BF := HZ.out.blk 0 (b := bF) (t := 97) (c := #[.int .i64 x0, .int .i64 y0]) rfl
                        have q0 : (World.drew w20).cell? ⟨rb, 3, none⟩ = some (.int .i64 (1)) ∧ (World.drew w20).cell? ⟨rb, 4, none⟩ = some (.int .i64 ov) ∧ (World.drew w20).cell? ⟨bF, 0, none⟩ = some (.int .i64 x0) ∧ (World.drew w20).cell? ⟨bF, 1, none⟩ = some (.int .i64 y0) := ⟨by have h : World.cell? _ ⟨rb, 3, none⟩ = some (.int .i64 wy) := B5.cell 3; rw [hy9.out] at h; exact h, B5.cell 4, BF.cell 0, BF.cell 1⟩
                        clear B5 BF
                        as_aux_lemma =>
                          refine wp_region_noPanic ?_
                          refine AnyK.start (ks := []) (S := fun w' => w'.cell? ⟨rb, 3, none⟩ = some (.int .i64 (1)) ∧ w'.cell? ⟨rb, 4, none⟩ = some (.int .i64 ov) ∧ w'.cell? ⟨bF, 0, none⟩ = some (.int .i64 x0) ∧ w'.cell? ⟨bF, 1, none⟩ = some (.int .i64 y0)) (by kernel_rfl) (by exact q0) (fun _ => ?_)
                          refine AnyK.take (i := 0) (v := ?_) rfl (by kernel_rfl) (by kernel_rfl) (by kernel_rfl) (by kernel_rfl) (fun _ _ _ h => h) (Or.inl ⟨by rfl, ?_⟩) (by exact q0) ?_
                          rotate_left
                          focus
                            intro w9 hSw
                            try dsimp only at hSw
                            go_simp
                            try with_reducible rfl
                          try simp only [Act.put, List.getElem_toArray, List.getElem_cons_zero, List.getElem_cons_succ, List.setIfInBounds_toArray, List.set_cons_zero, List.set_cons_succ]
                          refine AnyK.take (i := 1) (v := ?_) rfl (by kernel_rfl) (by kernel_rfl) (by kernel_rfl) (by kernel_rfl) (fun _ _ _ h => h) (Or.inl ⟨by rfl, ?_⟩) (by exact q0) ?_
                          rotate_left
                          focus
                            intro w9 hSw
                            try dsimp only at hSw
                            go_simp
                            try with_reducible rfl
                          try simp only [Act.put, List.getElem_toArray, List.getElem_cons_zero, List.getElem_cons_succ, List.setIfInBounds_toArray, List.set_cons_zero, List.set_cons_succ]
                          refine AnyK.take (i := 2) (v := ?_) rfl (by kernel_rfl) (by kernel_rfl) (by kernel_rfl) (by kernel_rfl) (fun _ _ _ h => h) (Or.inl ⟨by rfl, ?_⟩) (by exact q0) ?_
                          rotate_left
                          focus
                            intro w9 hSw
                            try dsimp only at hSw
                            go_simp
                            try with_reducible rfl
                          try simp only [Act.put, List.getElem_toArray, List.getElem_cons_zero, List.getElem_cons_succ, List.setIfInBounds_toArray, List.set_cons_zero, List.set_cons_succ]
                          refine AnyK.take (i := 3) (v := ?_) rfl (by kernel_rfl) (by kernel_rfl) (by kernel_rfl) (by kernel_rfl) (fun _ _ _ h => h) (Or.inl ⟨by rfl, ?_⟩) (by exact q0) ?_
                          rotate_left
                          focus
                            intro w9 hSw
                            try dsimp only at hSw
                            go_simp
                            try with_reducible rfl
                          try simp only [Act.put, List.getElem_toArray, List.getElem_cons_zero, List.getElem_cons_succ, List.setIfInBounds_toArray, List.set_cons_zero, List.set_cons_succ]
                          refine AnyK.take (i := 4) (v := ?_) rfl (by kernel_rfl) (by kernel_rfl) (by kernel_rfl) (by kernel_rfl) (fun _ _ _ h => h) (Or.inl ⟨by kernel_rfl, ?_⟩) (by exact q0) ?_
                          rotate_left
                          focus
                            intro w9 hSw
                            try dsimp only at hSw
                            go_simp
                            try with_reducible rfl
                          try simp only [Act.put, List.getElem_toArray, List.getElem_cons_zero, List.getElem_cons_succ, List.setIfInBounds_toArray, List.set_cons_zero, List.set_cons_succ]
                          refine AnyK.take (i := 5) (v := ?_) rfl (by kernel_rfl) (by kernel_rfl) (by kernel_rfl) (by kernel_rfl) (fun _ _ _ h => h) (Or.inl ⟨by kernel_rfl, ?_⟩) (by exact q0) ?_
                          rotate_left
                          focus
                            intro w9 hSw
                            try dsimp only at hSw
                            go_simp
                            try with_reducible rfl
                          try simp only [Act.put, List.getElem_toArray, List.getElem_cons_zero, List.getElem_cons_succ, List.setIfInBounds_toArray, List.set_cons_zero, List.set_cons_succ]
                          refine AnyK.take (i := 6) (v := ?_) rfl (by kernel_rfl) (by kernel_rfl) (by kernel_rfl) (by kernel_rfl) (fun _ _ _ h => h) (Or.inl ⟨by kernel_rfl, ?_⟩) (by exact q0) ?_
                          rotate_left
                          focus
                            intro w9 hSw
                            try dsimp only at hSw
                            go_simp
                            try with_reducible rfl
                          try simp only [Act.put, List.getElem_toArray, List.getElem_cons_zero, List.getElem_cons_succ, List.setIfInBounds_toArray, List.set_cons_zero, List.set_cons_succ]
                          refine AnyK.take (i := 7) (v := ?_) rfl (by kernel_rfl) (by kernel_rfl) (by kernel_rfl) (by kernel_rfl) (fun _ _ _ h => h) (Or.inl ⟨by rfl, ?_⟩) (by exact q0) ?_
                          rotate_left
                          focus
                            intro w9 hSw
                            try dsimp only at hSw
                            go_simp
                            try with_reducible rfl
                          try simp only [Act.put, List.getElem_toArray, List.getElem_cons_zero, List.getElem_cons_succ, List.setIfInBounds_toArray, List.set_cons_zero, List.set_cons_succ]
                          refine AnyK.take (i := 8) (v := ?_) rfl (by kernel_rfl) (by kernel_rfl) (by kernel_rfl) (by kernel_rfl) (fun _ _ _ h => h) (Or.inl ⟨by rfl, ?_⟩) (by exact q0) ?_
                          rotate_left
                          focus
                            intro w9 hSw
                            try dsimp only at hSw
                            go_simp
                            try with_reducible rfl
                          try simp only [Act.put, List.getElem_toArray, List.getElem_cons_zero, List.getElem_cons_succ, List.setIfInBounds_toArray, List.set_cons_zero, List.set_cons_succ]
                          refine AnyK.take (i := 9) (v := ?_) rfl (by kernel_rfl) (by kernel_rfl) (by kernel_rfl) (by kernel_rfl) (fun _ _ _ h => h) (Or.inl ⟨by kernel_rfl, ?_⟩) (by exact q0) ?_
                          rotate_left
                          focus
                            intro w9 hSw
                            try dsimp only at hSw
                            go_simp
                            try with_reducible rfl
                          try simp only [Act.put, List.getElem_toArray, List.getElem_cons_zero, List.getElem_cons_succ, List.setIfInBounds_toArray, List.set_cons_zero, List.set_cons_succ]
                          refine AnyK.take (i := 10) (v := ?_) rfl (by kernel_rfl) (by kernel_rfl) (by kernel_rfl) (by kernel_rfl) (fun _ _ _ h => h) (Or.inl ⟨by kernel_rfl, ?_⟩) (by exact q0) ?_
                          rotate_left
                          focus
                            intro w9 hSw
                            try dsimp only at hSw
                            go_simp
                            try with_reducible rfl
                          try simp only [Act.put, List.getElem_toArray, List.getElem_cons_zero, List.getElem_cons_succ, List.setIfInBounds_toArray, List.set_cons_zero, List.set_cons_succ]
                          refine AnyK.take (i := 11) (v := ?_) rfl (by kernel_rfl) (by kernel_rfl) (by kernel_rfl) (by kernel_rfl) (fun _ _ _ h => h) (Or.inl ⟨by kernel_rfl, ?_⟩) (by exact q0) ?_
                          rotate_left
                          focus
                            intro w9 hSw
                            try dsimp only at hSw
                            go_simp
                            try with_reducible rfl
                          try simp only [Act.put, List.getElem_toArray, List.getElem_cons_zero, List.getElem_cons_succ, List.setIfInBounds_toArray, List.set_cons_zero, List.set_cons_succ]
                          refine AnyK.take (i := 12) (v := ?_) rfl (by kernel_rfl) (by kernel_rfl) (by kernel_rfl) (by kernel_rfl) (fun _ _ _ h => h) (Or.inl ⟨by kernel_rfl, ?_⟩) (by exact q0) ?_
                          rotate_left
                          focus
                            intro w9 hSw
                            try dsimp only at hSw
                            go_simp
                            try with_reducible rfl
                          try simp only [Act.put, List.getElem_toArray, List.getElem_cons_zero, List.getElem_cons_succ, List.setIfInBounds_toArray, List.set_cons_zero, List.set_cons_succ]
                          refine AnyK.take (i := 13) (v := ?_) rfl (by kernel_rfl) (by kernel_rfl) (by kernel_rfl) (by kernel_rfl) (fun _ _ _ h => h) (Or.inl ⟨by kernel_rfl, ?_⟩) (by exact q0) ?_
                          rotate_left
                          focus
                            intro w9 hSw
                            try dsimp only at hSw
                            go_simp
                            try with_reducible rfl
                          try simp only [Act.put, List.getElem_toArray, List.getElem_cons_zero, List.getElem_cons_succ, List.setIfInBounds_toArray, List.set_cons_zero, List.set_cons_succ]
                          refine AnyK.take (i := 14) (v := ?_) rfl (by kernel_rfl) (by kernel_rfl) (by kernel_rfl) (by kernel_rfl) (fun _ _ _ h => h) (Or.inl ⟨by kernel_rfl, ?_⟩) (by exact q0) ?_
                          rotate_left
                          focus
                            intro w9 hSw
                            try dsimp only at hSw
                            go_simp
                            try with_reducible rfl
                          try simp only [Act.put, List.getElem_toArray, List.getElem_cons_zero, List.getElem_cons_succ, List.setIfInBounds_toArray, List.set_cons_zero, List.set_cons_succ]
                          refine AnyK.take (i := 15) (v := .bool true) rfl (by kernel_rfl) (by kernel_rfl) (by kernel_rfl) (by kernel_rfl) (fun _ _ _ h => h) (Or.inl ⟨by kernel_rfl, ?_⟩) (by exact q0) ?_
                          focus
                            intro w9 hSw
                            try dsimp only at hSw
                            go_simp
                          try simp only [Act.put, List.getElem_toArray, List.getElem_cons_zero, List.getElem_cons_succ, List.setIfInBounds_toArray, List.set_cons_zero, List.set_cons_succ]
                          refine AnyK.take (i := 16) (v := .bool true) rfl (by kernel_rfl) (by kernel_rfl) (by kernel_rfl) (by kernel_rfl) (fun _ _ _ h => h) (Or.inl ⟨by kernel_rfl, ?_⟩) (by exact q0) ?_
                          focus
                            intro w9 hSw
                            try dsimp only at hSw
                            go_simp
                          try simp only [Act.put, List.getElem_toArray, List.getElem_cons_zero, List.getElem_cons_succ, List.setIfInBounds_toArray, List.set_cons_zero, List.set_cons_succ]
                          refine AnyK.done (by kernel_rfl) ?_ _
                          refine NoPanic.normal ?_
                          clear q0
                          go_wp2_with fail
                          go_meet
                          exact ⟨rfl, HZ⟩
                      case rest =>
                      obtain ⟨rfl, HZ⟩ := hcut
                      clear HY
                      rename World => w21
                      have q3 : World.cell? w21 ⟨rb, 3, none⟩ = some (.int .i64 (1)) := by have h : World.cell? w21 ⟨rb, 3, none⟩ = some (.int .i64 wy) := (HZ.out.blk 5 (b := rb) (t := 78) (c := #[.slice a1 ts.length c1, .slice a2 ts.length c2, .int .i64 (kp : Int), .int .i64 wy, .int .i64 ov, .int .i64 99]) rfl).cell 3; rw [hy9.out] at h; exact h
                      have BF := HZ.out.blk 0 (b := bF) (t := 97) (c := #[.int .i64 x0, .int .i64 y0]) rfl
                      have e0 : World.cell? w21 ⟨bF, 1, none⟩ = some (.int .i64 y0) := BF.cell 1
                      have f0 := BF.froz 1
                      have HX := Lib.hid (FIN.out x0 99 (World.setCell w21 ⟨bF, 1, none⟩ (.int .i64 99)) (by simp [hy9.out, e9.out]) (by simp [hy9.out, e9.out]) (HZ.out.setCell 0 rfl 1 (.int .i64 99)))
                      clear BF FIN
                      go_wp2_with fail
                      go_meet
                      exact ⟨m + 1, x0, 99, by go_num, HX⟩
                    · have fb : (y0 == ov) = false := beq_eq_false_iff_ne.2 e9
                      have e9 := Lib.hid e9
                      go_cut [250] from 234 to 250 (fun s250 wx => s250 = .bool false ∧ Hid (Heap w wx (blkP bF 97 #[.int .i64 x0, .int .i64 y0] :: (blkP bM 4 (mrkA (hM (on.drop kp) L1')) :: [rowP 3 1 (.slice ao ts.length co) ts.length (intC (on.map fun (i : Nat) => (i : Int))), rowP 29 1 (.slice a1 ts.length c1) ts.length (intC (on.map told)), rowP 2 1 (.slice a2 ts.length c2) ts.length (intC fs), blkP rb 78 #[.slice a1 ts.length c1, .slice a2 ts.length c2, .int .i64 (kp : Int), .int .i64 wy, .int .i64 ov, .int .i64 99], blkP bN 2 (nowA L1')] ++ (wdL c (alW (alR on fs (kp : Int) wy ov) (ndW 1 5).ep L0 1 all) ++ [rowP 29 1 (.slice a0 5 cp) 5 (intC (tolds 5))])))))
                      case first =>
                        have HZ := Lib.hid HY.out.drew
                        have B5 := HZ.out.blk 5 (b := rb) (t := 78) (c := #[.slice a1 ts.length c1, .slice a2 ts.length c2, .int .i64 (kp : Int), .int .i64 wy, .int .i64 ov, .int .i64 99]) rfl
                        have BF := HZ.out.blk 0 (b := bF) (t := 97) (c := #[.int .i64 x0, .int .i64 y0]) rfl
                        have q0 : (World.drew w20).cell? ⟨rb, 3, none⟩ = some (.int .i64 (1)) ∧ (World.drew w20).cell? ⟨rb, 4, none⟩ = some (.int .i64 ov) ∧ (World.drew w20).cell? ⟨bF, 0, none⟩ = some (.int .i64 x0) ∧ (World.drew w20).cell? ⟨bF, 1, none⟩ = some (.int .i64 y0) := ⟨by have h : World.cell? _ ⟨rb, 3, none⟩ = some (.int .i64 wy) := B5.cell 3; rw [hy9.out] at h; exact h, B5.cell 4, BF.cell 0, BF.cell 1⟩
                        clear B5 BF
                        as_aux_lemma =>
                          refine wp_region_noPanic ?_
                          refine AnyK.start (ks := []) (S := fun w' => w'.cell? ⟨rb, 3, none⟩ = some (.int .i64 (1)) ∧ w'.cell? ⟨rb, 4, none⟩ = some (.int .i64 ov) ∧ w'.cell? ⟨bF, 0, none⟩ = some (.int .i64 x0) ∧ w'.cell? ⟨bF, 1, none⟩ = some (.int .i64 y0)) (by kernel_rfl) (by exact q0) (fun _ => ?_)
                          refine AnyK.take (i := 0) (v := ?_) rfl (by kernel_rfl) (by kernel_rfl) (by kernel_rfl) (by kernel_rfl) (fun _ _ _ h => h) (Or.inl ⟨by rfl, ?_⟩) (by exact q0) ?_
                          rotate_left
                          focus
                            intro w9 hSw
                            try dsimp only at hSw
                            go_simp
                            try with_reducible rfl
                          try simp only [Act.put, List.getElem_toArray, List.getElem_cons_zero, List.getElem_cons_succ, List.setIfInBounds_toArray, List.set_cons_zero, List.set_cons_succ]
                          refine AnyK.take (i := 1) (v := ?_) rfl (by kernel_rfl) (by kernel_rfl) (by kernel_rfl) (by kernel_rfl) (fun _ _ _ h => h) (Or.inl ⟨by rfl, ?_⟩) (by exact q0) ?_
                          rotate_left
                          focus
                            intro w9 hSw
                            try dsimp only at hSw
                            go_simp
                            try with_reducible rfl
                          try simp only [Act.put, List.getElem_toArray, List.getElem_cons_zero, List.getElem_cons_succ, List.setIfInBounds_toArray, List.set_cons_zero, List.set_cons_succ]
                          refine AnyK.take (i := 2) (v := ?_) rfl (by kernel_rfl) (by kernel_rfl) (by kernel_rfl) (by kernel_rfl) (fun _ _ _ h => h) (Or.inl ⟨by rfl, ?_⟩) (by exact q0) ?_
                          rotate_left
                          focus
                            intro w9 hSw
                            try dsimp only at hSw
                            go_simp
                            try with_reducible rfl
                          try simp only [Act.put, List.getElem_toArray, List.getElem_cons_zero, List.getElem_cons_succ, List.setIfInBounds_toArray, List.set_cons_zero, List.set_cons_succ]
                          refine AnyK.take (i := 3) (v := ?_) rfl (by kernel_rfl) (by kernel_rfl) (by kernel_rfl) (by kernel_rfl) (fun _ _ _ h => h) (Or.inl ⟨by rfl, ?_⟩) (by exact q0) ?_
                          rotate_left
                          focus
                            intro w9 hSw
                            try dsimp only at hSw
                            go_simp
                            try with_reducible rfl
                          try simp only [Act.put, List.getElem_toArray, List.getElem_cons_zero, List.getElem_cons_succ, List.setIfInBounds_toArray, List.set_cons_zero, List.set_cons_succ]
                          refine AnyK.take (i := 4) (v := ?_) rfl (by kernel_rfl) (by kernel_rfl) (by kernel_rfl) (by kernel_rfl) (fun _ _ _ h => h) (Or.inl ⟨by kernel_rfl, ?_⟩) (by exact q0) ?_
                          rotate_left
                          focus
                            intro w9 hSw
                            try dsimp only at hSw
                            go_simp
                            try with_reducible rfl
                          try simp only [Act.put, List.getElem_toArray, List.getElem_cons_zero, List.getElem_cons_succ, List.setIfInBounds_toArray, List.set_cons_zero, List.set_cons_succ]
                          refine AnyK.take (i := 5) (v := ?_) rfl (by kernel_rfl) (by kernel_rfl) (by kernel_rfl) (by kernel_rfl) (fun _ _ _ h => h) (Or.inl ⟨by kernel_rfl, ?_⟩) (by exact q0) ?_
                          rotate_left
                          focus
                            intro w9 hSw
                            try dsimp only at hSw
                            go_simp
                            try with_reducible rfl
                          try simp only [Act.put, List.getElem_toArray, List.getElem_cons_zero, List.getElem_cons_succ, List.setIfInBounds_toArray, List.set_cons_zero, List.set_cons_succ]
                          refine AnyK.take (i := 6) (v := ?_) rfl (by kernel_rfl) (by kernel_rfl) (by kernel_rfl) (by kernel_rfl) (fun _ _ _ h => h) (Or.inl ⟨by kernel_rfl, ?_⟩) (by exact q0) ?_
                          rotate_left
                          focus
                            intro w9 hSw
                            try dsimp only at hSw
                            go_simp
                            try with_reducible rfl
                          try simp only [Act.put, List.getElem_toArray, List.getElem_cons_zero, List.getElem_cons_succ, List.setIfInBounds_toArray, List.set_cons_zero, List.set_cons_succ]
                          refine AnyK.take (i := 7) (v := ?_) rfl (by kernel_rfl) (by kernel_rfl) (by kernel_rfl) (by kernel_rfl) (fun _ _ _ h => h) (Or.inl ⟨by rfl, ?_⟩) (by exact q0) ?_
                          rotate_left
                          focus
                            intro w9 hSw
                            try dsimp only at hSw
                            go_simp
                            try with_reducible rfl
                          try simp only [Act.put, List.getElem_toArray, List.getElem_cons_zero, List.getElem_cons_succ, List.setIfInBounds_toArray, List.set_cons_zero, List.set_cons_succ]
                          refine AnyK.take (i := 8) (v := ?_) rfl (by kernel_rfl) (by kernel_rfl) (by kernel_rfl) (by kernel_rfl) (fun _ _ _ h => h) (Or.inl ⟨by rfl, ?_⟩) (by exact q0) ?_
                          rotate_left
                          focus
                            intro w9 hSw
                            try dsimp only at hSw
                            go_simp
                            try with_reducible rfl
                          try simp only [Act.put, List.getElem_toArray, List.getElem_cons_zero, List.getElem_cons_succ, List.setIfInBounds_toArray, List.set_cons_zero, List.set_cons_succ]
                          refine AnyK.take (i := 9) (v := ?_) rfl (by kernel_rfl) (by kernel_rfl) (by kernel_rfl) (by kernel_rfl) (fun _ _ _ h => h) (Or.inl ⟨by kernel_rfl, ?_⟩) (by exact q0) ?_
                          rotate_left
                          focus
                            intro w9 hSw
                            try dsimp only at hSw
                            go_simp
                            try with_reducible rfl
                          try simp only [Act.put, List.getElem_toArray, List.getElem_cons_zero, List.getElem_cons_succ, List.setIfInBounds_toArray, List.set_cons_zero, List.set_cons_succ]
                          refine AnyK.take (i := 10) (v := ?_) rfl (by kernel_rfl) (by kernel_rfl) (by kernel_rfl) (by kernel_rfl) (fun _ _ _ h => h) (Or.inl ⟨by kernel_rfl, ?_⟩) (by exact q0) ?_
                          rotate_left
                          focus
                            intro w9 hSw
                            try dsimp only at hSw
                            go_simp
                            try with_reducible rfl
                          try simp only [Act.put, List.getElem_toArray, List.getElem_cons_zero, List.getElem_cons_succ, List.setIfInBounds_toArray, List.set_cons_zero, List.set_cons_succ]
                          refine AnyK.take (i := 11) (v := ?_) rfl (by kernel_rfl) (by kernel_rfl) (by kernel_rfl) (by kernel_rfl) (fun _ _ _ h => h) (Or.inl ⟨by kernel_rfl, ?_⟩) (by exact q0) ?_
                          rotate_left
                          focus
                            intro w9 hSw
                            try dsimp only at hSw
                            go_simp
                            try with_reducible rfl
                          try simp only [Act.put, List.getElem_toArray, List.getElem_cons_zero, List.getElem_cons_succ, List.setIfInBounds_toArray, List.set_cons_zero, List.set_cons_succ]
                          refine AnyK.take (i := 12) (v := ?_) rfl (by kernel_rfl) (by kernel_rfl) (by kernel_rfl) (by kernel_rfl) (fun _ _ _ h => h) (Or.inl ⟨by kernel_rfl, ?_⟩) (by exact q0) ?_
                          rotate_left
                          focus
                            intro w9 hSw
                            try dsimp only at hSw
                            go_simp
                            try with_reducible rfl
                          try simp only [Act.put, List.getElem_toArray, List.getElem_cons_zero, List.getElem_cons_succ, List.setIfInBounds_toArray, List.set_cons_zero, List.set_cons_succ]
                          refine AnyK.take (i := 13) (v := ?_) rfl (by kernel_rfl) (by kernel_rfl) (by kernel_rfl) (by kernel_rfl) (fun _ _ _ h => h) (Or.inl ⟨by kernel_rfl, ?_⟩) (by exact q0) ?_
                          rotate_left
                          focus
                            intro w9 hSw
                            try dsimp only at hSw
                            go_simp
                            try with_reducible rfl
                          try simp only [Act.put, List.getElem_toArray, List.getElem_cons_zero, List.getElem_cons_succ, List.setIfInBounds_toArray, List.set_cons_zero, List.set_cons_succ]
                          refine AnyK.take (i := 14) (v := ?_) rfl (by kernel_rfl) (by kernel_rfl) (by kernel_rfl) (by kernel_rfl) (fun _ _ _ h => h) (Or.inl ⟨by kernel_rfl, ?_⟩) (by exact q0) ?_
                          rotate_left
                          focus
                            intro w9 hSw
                            try dsimp only at hSw
                            go_simp
                            try with_reducible rfl
                          try simp only [Act.put, List.getElem_toArray, List.getElem_cons_zero, List.getElem_cons_succ, List.setIfInBounds_toArray, List.set_cons_zero, List.set_cons_succ]
                          refine AnyK.take (i := 15) (v := .bool false) rfl (by kernel_rfl) (by kernel_rfl) (by kernel_rfl) (by kernel_rfl) (fun _ _ _ h => h) (Or.inl ⟨by kernel_rfl, ?_⟩) (by exact q0) ?_
                          focus
                            intro w9 hSw
                            try dsimp only at hSw
                            go_simp
                          try simp only [Act.put, List.getElem_toArray, List.getElem_cons_zero, List.getElem_cons_succ, List.setIfInBounds_toArray, List.set_cons_zero, List.set_cons_succ]
                          refine AnyK.take (i := 16) (v := .bool false) rfl (by kernel_rfl) (by kernel_rfl) (by kernel_rfl) (by kernel_rfl) (fun _ _ _ h => h) (Or.inl ⟨by kernel_rfl, ?_⟩) (by exact q0) ?_
                          focus
                            intro w9 hSw
                            try dsimp only at hSw
                            go_simp
                          try simp only [Act.put, List.getElem_toArray, List.getElem_cons_zero, List.getElem_cons_succ, List.setIfInBounds_toArray, List.set_cons_zero, List.set_cons_succ]
                          refine AnyK.done (by kernel_rfl) ?_ _
                          refine NoPanic.normal ?_
                          clear q0
                          go_wp2_with fail
                          go_meet
                          exact ⟨rfl, HZ⟩
                      case rest =>
                      obtain ⟨rfl, HZ⟩ := hcut
                      clear HY
                      rename World => w21
                      have HX := Lib.hid (FIN.out x0 y0 w21 (by simp [hy9.out, e9.out]) (by simp [hy9.out, e9.out]) HZ.out)
                      clear FIN
                      go_wp2_with fail
                      go_meet
                      exact ⟨m + 1, x0, y0, by go_num, HX⟩
          case rest =>
          obtain ⟨T, x0, y0, rfl, HF6⟩ := hcut
          clear HH
          rename World => w18
          obtain ⟨R, hR⟩ : ∃ r, (hRes all on fs kp wy ov L0) = r := ⟨_, rfl⟩
          obtain ⟨log, hlog, hsol⟩ := solH_al (ep := (ndW 1 5).ep) (al := all) (on := on) (fs := fs) (keep := kp) (way := wy) (old := ov) (L := L0) (fun i hi => by rw [HL0.out.1]; exact HOF.out.2.2 i hi) (by rw [HL0.out.1]; omega) (by rw [HOF.out.2.1, HOF.out.1])
          have hpos := hRes_pos all on fs kp wy ov L0
          rw [hR] at hlog hsol hpos
          have HF7 := HF6.out
          rw [hR] at HF7
          clear HF6 HFF hR
          obtain ⟨rt, rb9, rst, ral, RL⟩ := R
          dsimp only at hlog hsol hpos HF7
          obtain ⟨g1, g2, g3, g4, g5, g6, g7, H7⟩ := HF7
          subst g1 g2 g3 g4
          have H8 : Heap w w18 (wdL c (alW (alR on fs (kp : Int) wy ov) (ndW 1 5).ep L0 1 all) ++ [rowP 29 1 (.slice a0 5 cp) 5 (intC (tolds 5)), blkP bF 97 #[.int .i64 x0, .int .i64 y0], blkP bM 4 (mrkA RL), rowP 3 1 (.slice ao ts.length co) ts.length (intC (on.map fun (i : Nat) => (i : Int))), rowP 29 1 (.slice a1 ts.length c1) ts.length (intC (on.map told)), rowP 2 1 (.slice a2 ts.length c2) ts.length (intC fs), blkP rb 78 #[.slice a1 ts.length c1, .slice a2 ts.length c2, .int .i64 (kp : Int), .int .i64 wy, .int .i64 ov, .int .i64 99], blkP bN 2 (nowA RL)]) := Heap.swapF (B := [blkP bF 97 #[.int .i64 x0, .int .i64 y0], blkP bM 4 (mrkA RL), rowP 3 1 (.slice ao ts.length co) ts.length (intC (on.map fun (i : Nat) => (i : Int))), rowP 29 1 (.slice a1 ts.length c1) ts.length (intC (on.map told)), rowP 2 1 (.slice a2 ts.length c2) ts.length (intC fs), blkP rb 78 #[.slice a1 ts.length c1, .slice a2 ts.length c2, .int .i64 (kp : Int), .int .i64 wy, .int .i64 ov, .int .i64 99], blkP bN 2 (nowA RL)]) (C := wdL c (alW (alR on fs (kp : Int) wy ov) (ndW 1 5).ep L0 1 all) ++ [rowP 29 1 (.slice a0 5 cp) 5 (intC (tolds 5))]) H7
          have hok : WdOk 10 (alW (alR on fs (kp : Int) wy ov) (ndW 1 5).ep L0 1 all) := ⟨nkS_ok (by rw [HL0.out.1]; omega) (Nat.le_refl _), (ndW_ok (t := 1) (k := 5) (es := []) (by omega) (by omega) (by simp)).ep, fun e he => by
            have he : e = ⟨on.map told, fs, kp, wy, ov, 99, 1, all⟩ := by simpa [alW, alR] using he
            subst he
            have := HOF.out.1
            have := HOF.out.2.1
            exact ⟨by show (on.map told).length ≤ 1000; rw [List.length_map]; omega, by show fs.length ≤ 1000; omega⟩⟩
          have CH := helper_alone (me := 0) H8 1 (alR on fs (kp : Int) wy ov) rfl (by show (0 : Int) ≤ (kp : Int); omega) (by show (on.map told).length ≤ fs.length; rw [List.length_map, HOF.out.1, HOF.out.2.1]; exact Nat.le_refl _) hok (by omega) _ hsol (by dsimp only; rw [hlog]; omega)
          have hmx : max log.length 1 = T := by rw [hlog]; omega
          dsimp only at CH
          rw [hmx] at CH
          have CH := Lib.hid CH
          have HG := Lib.hid (And.intro g5 g6)
          clear H7 H8 hok hmx hlog hsol hpos g5 g6
          go_wp2_with fail
          refine CH.out.mono ?_
          rintro e w22 ⟨tb, rfl, CA⟩
          clear CH
          go_wp2_with fail
          refine CA.out.mono ?_
          rintro e w23 ⟨T', b1, cp1, b2, cp2, rfl, H5, hd, ho, ok5⟩
          clear CA
          have H5 : Heap w w23 (wdL c ((alW (alR on fs (kp : Int) wy ov) (ndW 1 5).ep RL st (all || !sb))) ++ ([rowP 29 1 (.slice a0 5 cp) 5 (intC (tolds 5)), blkP bF 97 #[.int .i64 x0, .int .i64 y0], blkP bM 4 (mrkA RL), rowP 3 1 (.slice ao ts.length co) ts.length (intC (on.map fun (i : Nat) => (i : Int))), rowP 29 1 (.slice a1 ts.length c1) ts.length (intC (on.map told)), rowP 2 1 (.slice a2 ts.length c2) ts.length (intC fs), blkP rb 78 #[.slice a1 ts.length c1, .slice a2 ts.length c2, .int .i64 (kp : Int), .int .i64 wy, .int .i64 ov, .int .i64 99], blkP bN 2 (nowA RL)] ++ [thP tb T', rowP 2 1 (.slice b1 1 cp1) 1 (intC [bit dn]), rowP 2 1 (.slice b2 1 cp2) 1 (intC [bit dn])])) := H5
          have CY := Lib.hid (yes_h H5 12 13 rfl dn rfl hd ho)
          clear hd ho ok5 H5
          go_upto_region 60 with fail
          go_cut [299] from 257 to 299 (fun s299 wx => s299 = .bool false ∧ Hid (Heap w wx (wdL c ((alW (alR on fs (kp : Int) wy ov) (ndW 1 5).ep RL st (all || !sb))) ++ [rowP 29 1 (.slice a0 5 cp) 5 (intC (tolds 5)), blkP bF 97 #[.int .i64 x0, .int .i64 y0], blkP bM 4 (mrkA RL), rowP 3 1 (.slice ao ts.length co) ts.length (intC (on.map fun (i : Nat) => (i : Int))), rowP 29 1 (.slice a1 ts.length c1) ts.length (intC (on.map told)), rowP 2 1 (.slice a2 ts.length c2) ts.length (intC fs), blkP rb 78 #[.slice a1 ts.length c1, .slice a2 ts.length c2, .int .i64 (kp : Int), .int .i64 wy, .int .i64 ov, .int .i64 99], blkP bN 2 (nowA RL)])))
          case first =>
            have hne : ((T : Int) != (T : Int)) = false := by simp
            rcases (by cases all <;> cases sb <;> simp : (all = true ∧ sb = true) ∨ (all = true ∧ sb = false) ∨ (all = false ∧ sb = true) ∨ (all = false ∧ sb = false)) with ⟨ha, hb⟩ | ⟨ha, hb⟩ | ⟨ha, hb⟩ | ⟨ha, hb⟩
            all_goals
              subst ha hb
              go_wp2_with fail
              refine CY.out.mono ?_
              rintro e w24 ⟨rfl, b3, cp3, H6⟩
              clear CY
              have H6 : Heap w w24 ((wdL c (_) ++ [rowP 29 1 (.slice a0 5 cp) 5 (intC (tolds 5)), blkP bF 97 #[.int .i64 x0, .int .i64 y0], blkP bM 4 (mrkA RL), rowP 3 1 (.slice ao ts.length co) ts.length (intC (on.map fun (i : Nat) => (i : Int))), rowP 29 1 (.slice a1 ts.length c1) ts.length (intC (on.map told)), rowP 2 1 (.slice a2 ts.length c2) ts.length (intC fs), blkP rb 78 #[.slice a1 ts.length c1, .slice a2 ts.length c2, .int .i64 (kp : Int), .int .i64 wy, .int .i64 ov, .int .i64 99], blkP bN 2 (nowA RL)]) ++ ([thP tb T', rowP 2 1 (.slice b1 1 cp1) 1 (intC [bit dn]), rowP 2 1 (.slice b2 1 cp2) 1 (intC [bit dn])] ++ [rowP 2 1 (.slice b3 1 cp3) 1 (intC [bit dn])])) := H6
              have H6 := Lib.hid H6.first
              obtain ⟨v0, v1, v2, v3, v4, v5⟩ := wdL_cells H6.out
              have CST : Hid (Calls Try.prog 56 _ _ (fun e w' => e = .returned (.int .u8 st) ∧ w' = w24)) := Lib.hid (State_h H6.out 2 rfl 1)
              have CAL : Hid (Calls Try.prog 61 _ _ (fun e w' => e = .returned (.bool _) ∧ w' = w24)) := Lib.hid (All_h H6.out 2 rfl 1)
              go_wp2_with fail
              refine CST.out.mono ?_
              rintro e w' ⟨rfl, hw⟩
              have hw := hw.symm
              subst hw
              clear CST
              go_wp2_with fail
              refine CAL.out.mono ?_
              rintro e w' ⟨rfl, hw⟩
              have hw := hw.symm
              subst hw
              clear CAL
              go_wp2_with fail
              go_meet
              exact ⟨rfl, H6⟩
          case rest =>
          obtain ⟨rfl, HH⟩ := hcut
          clear CY
          rename World => w25
          go_upto_region 62 with fail
          have okA := Lib.hid ((nkS_ok (l := RL) (N := 10) (by rw [HG.out.2]; omega) (Nat.le_refl _)).ok (by omega))
          go_wp2_with fail
          go_loopw [302] (fun i wr => ∃ k : Nat, i = .int .i64 (k : Nat) ∧ k ≤ 5 ∧ Hid (Heap w wr (wdL c ((alW (alR on fs (kp : Int) wy ov) (ndW 1 5).ep RL st (all || !sb))) ++ [rowP 29 1 (.slice a0 5 cp) 5 (intC (tolds 5)), blkP bF 97 #[.int .i64 x0, .int .i64 y0], blkP bM 4 (mrkA RL), rowP 3 1 (.slice ao ts.length co) ts.length (intC (on.map fun (i : Nat) => (i : Int))), rowP 29 1 (.slice a1 ts.length c1) ts.length (intC (on.map told)), rowP 2 1 (.slice a2 ts.length c2) ts.length (intC fs), blkP rb 78 #[.slice a1 ts.length c1, .slice a2 ts.length c2, .int .i64 (kp : Int), .int .i64 wy, .int .i64 ov, .int .i64 99], blkP bN 2 (nowA RL)]))) (fun i _ => 5 - (intOf i).toNat)
          case atStart => exact ⟨0, rfl, by omega, HH⟩
          case round =>
          clear HH
          obtain ⟨k, rfl, hk, HH⟩ := hrel
          by_cases hlt : k < 5
          · have hkI : (k : Int) < 5 := by omega
            obtain ⟨g9, ee, hcc, hat⟩ := (HH.out.row 4 (t := 29) (sz := 1) (n := 5) (v := .slice a0 5 cp) (us := intC (tolds 5)) rfl).rdv.at (by omega)
            have ee : a0 = some g9 := by simpa using ee
            subst ee
            have y1 : World.cell? _ (g9.add k) = some (.int .i64 (told k)) := hat k _ (tolds_get hlt)
            obtain ⟨v0, v1, v2, v3, v4, v5⟩ := wdL_cells HH.out
            have q1 := nowA_cell (HH.out.blk 11 (b := bN) (t := 2) (c := nowA RL) rfl) (i := k) (by rw [HG.out.2]; exact hlt)
            have q2 := mrkA_cell (HH.out.blk 6 (b := bM) (t := 4) (c := mrkA RL) rfl) (i := k) (by rw [HG.out.2]; exact hlt)
            obtain ⟨y, hy⟩ : ∃ y, RL[k]? = some y := ⟨_, List.getElem?_eq_getElem (by rw [HG.out.2]; exact hlt)⟩
            have hyD : RL.getD k nk0 = y := by rw [List.getD_eq_getElem?_getD, hy]; rfl
            rw [hyD] at q1 q2
            obtain ⟨yi, ym, ya, yb⟩ := y
            dsimp only at q1 q2
            have hatk : arAt (nkS RL) (told k) = some (2 + k) := arAt_nk (by rw [HG.out.2]; exact hlt) (by rw [HG.out.2]; omega)
            have CI : Hid (∀ z, Heap w z (wdL c ((alW (alR on fs (kp : Int) wy ov) (ndW 1 5).ep RL st (all || !sb))) ++ [rowP 29 1 (.slice (some g9) 5 cp) 5 (intC (tolds 5)), blkP bF 97 #[.int .i64 x0, .int .i64 y0], blkP bM 4 (mrkA RL), rowP 3 1 (.slice ao ts.length co) ts.length (intC (on.map fun (i : Nat) => (i : Int))), rowP 29 1 (.slice a1 ts.length c1) ts.length (intC (on.map told)), rowP 2 1 (.slice a2 ts.length c2) ts.length (intC fs), blkP rb 78 #[.slice a1 ts.length c1, .slice a2 ts.length c2, .int .i64 (kp : Int), .int .i64 wy, .int .i64 ov, .int .i64 99], blkP bN 2 (nowA RL)]) → Calls Try.prog 63 #[.pointer (some ⟨c.ab, 0, none⟩), .int .i64 (told k)] z (fun e w' => e = .returned (.int .i64 yi) ∧ w' = z)) := Lib.hid (fun z hz => by
              have C := Info_q hz 1 rfl okA.out (told k) hatk
              rw [show ((alW (alR on fs (kp : Int) wy ov) (ndW 1 5).ep RL st (all || !sb))).ar = nkS RL from rfl, nk_info hy (by rw [HG.out.2]; omega)] at C
              exact C)
            have CM : Hid (∀ z, Heap w z (wdL c ((alW (alR on fs (kp : Int) wy ov) (ndW 1 5).ep RL st (all || !sb))) ++ [rowP 29 1 (.slice (some g9) 5 cp) 5 (intC (tolds 5)), blkP bF 97 #[.int .i64 x0, .int .i64 y0], blkP bM 4 (mrkA RL), rowP 3 1 (.slice ao ts.length co) ts.length (intC (on.map fun (i : Nat) => (i : Int))), rowP 29 1 (.slice a1 ts.length c1) ts.length (intC (on.map told)), rowP 2 1 (.slice a2 ts.length c2) ts.length (intC fs), blkP rb 78 #[.slice a1 ts.length c1, .slice a2 ts.length c2, .int .i64 (kp : Int), .int .i64 wy, .int .i64 ov, .int .i64 99], blkP bN 2 (nowA RL)]) → Calls Try.prog 60 #[.pointer (some ⟨c.ab, 0, none⟩), .int .i64 (told k)] z (fun e w' => e = .returned (.bool ym) ∧ w' = z)) := Lib.hid (fun z hz => by
              have C := Mark_q hz 1 rfl okA.out (told k) hatk
              rw [show ((alW (alR on fs (kp : Int) wy ov) (ndW 1 5).ep RL st (all || !sb))).ar = nkS RL from rfl, nk_mark hy (by rw [HG.out.2]; omega)] at C
              exact C)
            have HHH : Hid (Heap w wr (wdL c ((alW (alR on fs (kp : Int) wy ov) (ndW 1 5).ep RL st (all || !sb))) ++ [rowP 29 1 (.slice (some g9) 5 cp) 5 (intC (tolds 5)), blkP bF 97 #[.int .i64 x0, .int .i64 y0], blkP bM 4 (mrkA RL), rowP 3 1 (.slice ao ts.length co) ts.length (intC (on.map fun (i : Nat) => (i : Int))), rowP 29 1 (.slice a1 ts.length c1) ts.length (intC (on.map told)), rowP 2 1 (.slice a2 ts.length c2) ts.length (intC fs), blkP rb 78 #[.slice a1 ts.length c1, .slice a2 ts.length c2, .int .i64 (kp : Int), .int .i64 wy, .int .i64 ov, .int .i64 99], blkP bN 2 (nowA RL)])) := HH
            clear hat hcc hy hyD hatk HH
            go_upto_region 65 with fail
            as_aux_lemma =>
              go_quiet ((first
                | (go_at_call 63; exact Calls.quiet_of_same (CI.out _ (HHH.out.drewN _)))
                | (go_at_call 60; exact Calls.quiet_of_same (CM.out _ (HHH.out.drewN _)))))
              go_wp2_with fail
              exact ⟨⟨k + 1, by go_num, by omega, Lib.hid (HHH.out.drewN _)⟩, by simp [intOf]; omega⟩
          · have hk5 : k = 5 := by omega
            subst hk5
            rename World => w26
            go_upto_region 68 with fail
            go_cut [366] from 332 to 366 (fun s366 wx => s366 = .bool false ∧ Hid (Heap w wx (wdL c ((alW (alR on fs (kp : Int) wy ov) (ndW 1 5).ep RL st (all || !sb))) ++ [rowP 29 1 (.slice a0 5 cp) 5 (intC (tolds 5)), blkP bF 97 #[.int .i64 x0, .int .i64 y0], blkP bM 4 (mrkA RL), rowP 3 1 (.slice ao ts.length co) ts.length (intC (on.map fun (i : Nat) => (i : Int))), rowP 29 1 (.slice a1 ts.length c1) ts.length (intC (on.map told)), rowP 2 1 (.slice a2 ts.length c2) ts.length (intC fs), blkP rb 78 #[.slice a1 ts.length c1, .slice a2 ts.length c2, .int .i64 (kp : Int), .int .i64 wy, .int .i64 ov, .int .i64 99], blkP bN 2 (nowA RL)])))
            case first =>
              by_cases hn0 : ts.length = 0
              · have hng : decide (0 < (ts.length : Int)) = false := by rw [hn0]; rfl
                have hng2 : decide (0 < ts.length) = false := by rw [hn0]; rfl
                have hng3 : ¬ 0 < ts.length := by omega
                clear hn0
                go_quiet (fail)
                go_wp2_with fail
                go_meet
                exact ⟨rfl, Lib.hid (HH.out.drewN _)⟩
              · have hng : decide (0 < (ts.length : Int)) = true := decide_eq_true (by omega)
                have hng2 : decide (0 < ts.length) = true := decide_eq_true (by omega)
                have hng3 : 0 < ts.length := by omega
                obtain ⟨i1, hi1⟩ : ∃ i, on[0]? = some i := ⟨_, List.getElem?_eq_getElem (by have := HOF.out.1; omega)⟩
                have hi15 : i1 < 5 := HOF.out.2.2 i1 (List.mem_of_getElem? hi1)
                have hii : (i1 : Int) < 5 := by omega
                obtain ⟨go9, ee, hcc, hat⟩ := (HH.out.row 7 (t := 3) (sz := 1) (n := ts.length) (v := .slice ao ts.length co) (us := intC (on.map fun (i : Nat) => (i : Int))) rfl).rdv.at (by omega)
                have ee : ao = some go9 := by simpa using ee
                obtain ⟨g9, ef, hcf, haf⟩ := (HH.out.row 4 (t := 29) (sz := 1) (n := 5) (v := .slice a0 5 cp) (us := intC (tolds 5)) rfl).rdv.at (by omega)
                have ef : a0 = some g9 := by simpa using ef
                subst ee ef
                have y1 : World.cell? _ go9 = some (.int .i64 (i1 : Int)) := hat 0 _ (by simp [intC, hi1])
                have y2 : World.cell? _ (g9.add i1) = some (.int .i64 (told i1)) := haf i1 _ (tolds_get hi15)
                obtain ⟨v0, v1, v2, v3, v4, v5⟩ := wdL_cells HH.out
                have BF := HH.out.blk 5 (b := bF) (t := 97) (c := #[.int .i64 x0, .int .i64 y0]) rfl
                have e0 : World.cell? w26 ⟨bF, 0, none⟩ = some (.int .i64 x0) := BF.cell 0
                have e1 : World.cell? w26 ⟨bF, 1, none⟩ = some (.int .i64 y0) := BF.cell 1
                have CWy : Hid (∀ (z : World) (i : Int), i = 0 ∨ i = 1 → Heap w z (wdL c ((alW (alR on fs (kp : Int) wy ov) (ndW 1 5).ep RL st (all || !sb))) ++ [rowP 29 1 (.slice (some g9) 5 cp) 5 (intC (tolds 5)), blkP bF 97 #[.int .i64 x0, .int .i64 y0], blkP bM 4 (mrkA RL), rowP 3 1 (.slice (some go9) ts.length co) ts.length (intC (on.map fun (i : Nat) => (i : Int))), rowP 29 1 (.slice a1 ts.length c1) ts.length (intC (on.map told)), rowP 2 1 (.slice a2 ts.length c2) ts.length (intC fs), blkP rb 78 #[.slice a1 ts.length c1, .slice a2 ts.length c2, .int .i64 (kp : Int), .int .i64 wy, .int .i64 ov, .int .i64 99], blkP bN 2 (nowA RL)]) → Calls Try.prog 47 #[.pointer (some ⟨c.ab, 0, none⟩), .int .i64 (told i1), .int .i64 i] z (fun e w' => e = .returned (.int .i64 (if i = 1 then y0 else x0)) ∧ w' = z)) := Lib.hid (fun z i hi hz => by
                  obtain ⟨y, hy⟩ : ∃ y, RL[i1]? = some y := ⟨_, List.getElem?_eq_getElem (by rw [HG.out.2]; exact hi15)⟩
                  have hyD : RL.getD i1 nk0 = y := by rw [List.getD_eq_getElem?_getD, hy]; rfl
                  obtain ⟨gx, gy⟩ := HG.out.1 i1 hi1 hi15
                  rw [hyD] at gx gy
                  have hw := nk_way hy (by rw [HG.out.2]; omega)
                  have hatk : arAt (nkS RL) (told i1) = some (2 + i1) := arAt_nk (by rw [HG.out.2]; exact hi15) (by rw [HG.out.2]; omega)
                  rcases hi with rfl | rfl
                  · have C := Way_q hz 1 rfl okA.out (told i1) 0 hatk
                    rw [show ((alW (alR on fs (kp : Int) wy ov) (ndW 1 5).ep RL st (all || !sb))).ar = nkS RL from rfl, hw.1] at C
                    rw [gx]
                    exact C
                  · have C := Way_q hz 1 rfl okA.out (told i1) 1 hatk
                    rw [show ((alW (alR on fs (kp : Int) wy ov) (ndW 1 5).ep RL st (all || !sb))).ar = nkS RL from rfl, hw.2] at C
                    rw [gy]
                    exact C)
                have HHH : Hid (Heap w w26 (wdL c ((alW (alR on fs (kp : Int) wy ov) (ndW 1 5).ep RL st (all || !sb))) ++ [rowP 29 1 (.slice (some g9) 5 cp) 5 (intC (tolds 5)), blkP bF 97 #[.int .i64 x0, .int .i64 y0], blkP bM 4 (mrkA RL), rowP 3 1 (.slice (some go9) ts.length co) ts.length (intC (on.map fun (i : Nat) => (i : Int))), rowP 29 1 (.slice a1 ts.length c1) ts.length (intC (on.map told)), rowP 2 1 (.slice a2 ts.length c2) ts.length (intC fs), blkP rb 78 #[.slice a1 ts.length c1, .slice a2 ts.length c2, .int .i64 (kp : Int), .int .i64 wy, .int .i64 ov, .int .i64 99], blkP bN 2 (nowA RL)])) := HH
                clear hat hcc haf hcf BF hn0 hi1 HH
                go_quiet ((go_at_call 47; exact Calls.quiet_of_same (CWy.out _ _ (by first | exact Or.inl rfl | exact Or.inr rfl) (HHH.out.drewN _))))
                go_wp2_with fail
                go_meet
                exact ⟨rfl, Lib.hid (HHH.out.drewN _)⟩
            case rest =>
            obtain ⟨rfl, HZ⟩ := hcut
            clear HH
            rename World => w27
            obtain ⟨v0, v1, v2, v3, v4, v5⟩ := wdL_cells HZ.out
            have CF : Hid (Calls Try.prog 41 _ _ (fun e w' => e = .returned (.int .i64 0) ∧ w' = w27)) := Lib.hid (Faults_h HZ.out 1 rfl)
            go_wp2_with fail
            refine CF.out.mono ?_
            rintro e w' ⟨rfl, hw⟩
            have hw := hw.symm
            subst hw
            clear CF
            go_wp2_with fail
            go_ret
            exact ⟨rfl, HZ.out.below⟩
end Go.Proofs.Ythkohomogknddaa
