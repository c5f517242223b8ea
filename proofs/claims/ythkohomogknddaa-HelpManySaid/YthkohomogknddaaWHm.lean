/- HelpMany. No condition. -/
import Derived.Test.YthkohomogknddaaHst
import Derived.Test.YthkohomogknddaaWHn
namespace Go.Proofs.Ythkohomogknddaa
open Go Go.RowKit
set_option linter.unusedVariables false
set_option linter.unusedSimpArgs false
set_option maxRecDepth 100000
/-- Is node j to be stale? Is one of the first j? -/
def staleB (stale : Int) (j : Nat) : Bool := decide (bits BinOp.and IntKind.u8 (stale / 2 ^ j) 1 = 1 ∧ 128 ≤ stale)
def staleA (stale : Int) (j : Nat) : Bool := (List.range j).any (staleB stale)
theorem staleB_yes {stale : Int} {j : Nat} (h : staleB stale j = true) : bits BinOp.and IntKind.u8 (stale / 2 ^ j) 1 = 1 ∧ 128 ≤ stale := of_decide_eq_true h
theorem staleB_no {stale : Int} {j : Nat} (h : ¬ staleB stale j = true) : ¬ bits BinOp.and IntKind.u8 (stale / 2 ^ j) 1 = 1 ∨ (bits BinOp.and IntKind.u8 (stale / 2 ^ j) 1 = 1 ∧ stale < 128) := by
  have h1 : ¬ (bits BinOp.and IntKind.u8 (stale / 2 ^ j) 1 = 1 ∧ 128 ≤ stale) := fun x => h (decide_eq_true x)
  by_cases h2 : bits BinOp.and IntKind.u8 (stale / 2 ^ j) 1 = 1
  · exact .inr ⟨h2, by have := fun x => h1 ⟨h2, x⟩; omega⟩
  · exact .inl h2
theorem staleA_yes {stale : Int} {j : Nat} (h : staleB stale j = true) : staleA stale (j + 1) = true := by
  unfold staleA; rw [List.range_succ]; simp [h]
theorem staleA_no {stale : Int} {j : Nat} (h : ¬ staleB stale j = true) : staleA stale (j + 1) = staleA stale j := by
  unfold staleA; rw [List.range_succ]; simp [h]
def stK (stale : Int) (j i : Nat) : Nk := ⟨if i < j ∧ staleB stale i = true then 33 else 0, false, 200 + 10 * (i : Int), 201 + 10 * (i : Int)⟩
def stL (stale : Int) (k j : Nat) : List Nk := (List.range k).map (stK stale j)
theorem stL_len (stale : Int) (k j : Nat) : (stL stale k j).length = k := by simp [stL]
theorem stL_zero (stale : Int) (k : Nat) : ({ ndW 3 k with ar := nkS (stL stale k 0) } : Wd) = ndW 3 k := by
  have : stL stale k 0 = fresh k := by
    unfold stL fresh
    apply List.map_congr_left
    intro i _
    simp [stK]
  rw [this]; rfl
theorem stL_at {stale : Int} {k j : Nat} (h : j < k) : (stL stale k j)[j]? = some ⟨0, false, 200 + 10 * (j : Int), 201 + 10 * (j : Int)⟩ := by
  simp [stL, stK, h]
theorem stL_no {stale : Int} {k j : Nat} (h : ¬ staleB stale j = true) : stL stale k (j + 1) = stL stale k j := by
  unfold stL
  apply List.map_congr_left
  intro i _
  unfold stK
  by_cases hi : i = j
  · subst hi; simp [h]
  · have : (i < j + 1 ∧ staleB stale i = true) ↔ (i < j ∧ staleB stale i = true) := ⟨fun x => ⟨by omega, x.2⟩, fun x => ⟨by omega, x.2⟩⟩
    simp only [this]
theorem stL_yes {stale : Int} {k j : Nat} (h : staleB stale j = true) : (stL stale k j).set j ⟨33, false, 200 + 10 * (j : Int), 201 + 10 * (j : Int)⟩ = stL stale k (j + 1) := by
  apply List.ext_getElem?
  intro i
  rw [List.getElem?_set]
  by_cases hi : j = i
  · subst hi
    rw [if_pos rfl, stL_len]
    split
    · rename_i hk; simp [stL, stK, hk, h]
    · rename_i hk; symm; exact List.getElem?_eq_none (by rw [stL_len]; omega)
  · rw [if_neg hi]
    unfold stL
    simp only [List.getElem?_map]
    cases hr : (List.range k)[i]? with
    | none => rfl
    | some r =>
      have hri : r = i := by
        obtain ⟨h1, h2⟩ := List.getElem?_eq_some_iff.1 hr
        simpa using h2.symm
      subst hri
      simp only [Option.map_some, stK]
      have : (r < j + 1 ∧ staleB stale r = true) ↔ (r < j ∧ staleB stale r = true) := ⟨fun x => ⟨by omega, x.2⟩, fun x => ⟨by omega, x.2⟩⟩
      simp only [this]
def ep3 : Ep := ⟨0, List.replicate 3 (-1), List.replicate 3 []⟩
/-- The first that is stale. -/
theorem stale_first (stale : Int) : ∀ (k : Nat), ∃ q, q ≤ k ∧ (∀ i, i < q → staleB stale i = false) ∧ (q < k → staleB stale q = true) ∧ staleA stale k = decide (q < k)
  | 0 => ⟨0, Nat.le_refl _, fun i h => by omega, fun h => by omega, rfl⟩
  | k + 1 => by
    obtain ⟨q, h1, h2, h3, h4⟩ := stale_first stale k
    rcases (by omega : q < k ∨ q = k) with h | h
    · refine ⟨q, by omega, h2, fun _ => h3 h, ?_⟩
      unfold staleA at h4 ⊢
      rw [List.range_succ, List.any_append, h4, decide_eq_true h, decide_eq_true (by omega : q < k + 1)]; rfl
    · subst h
      by_cases hb : staleB stale q = true
      · exact ⟨q, by omega, h2, fun _ => hb, by rw [staleA_yes hb, decide_eq_true (by omega)]⟩
      · refine ⟨q + 1, Nat.le_refl _, fun i hi => ?_, fun h => by omega, by rw [staleA_no hb, h4, decide_eq_false (by omega), decide_eq_false (by omega)]⟩
        rcases (by omega : i < q ∨ i = q) with h | rfl
        · exact h2 i h
        · simpa using hb
def stI (stale : Int) (i : Nat) : Int := if staleB stale i = true then 33 else 0
theorem st_ok {stale : Int} {k q : Nat} {keep : Int} (h1 : 1 ≤ k) (h4 : k ≤ 4) (hk : 0 ≤ keep) (hq : q ≤ k) (hlo : ∀ i, i < q → staleB stale i = false) (hat : q < k → staleB stale q = true) : MyOk k keep q (stI stale) :=
  ⟨h1, h4, hk, hq, fun i hi => by unfold stI; rw [hlo i hi]; rfl, fun h => by unfold stI; rw [hat h]; rfl, fun i => by unfold stI; split <;> simp⟩
theorem st_inv {stale : Int} {k q : Nat} {keep : Int} : HsInv k keep q (stI stale) ⟨stL stale k k, 1, false⟩ := by
  have key : ∀ (i : Nat) (y : Nk), (stL stale k k)[i]? = some y → i < k ∧ y = stK stale k i := fun i y h => by
    have hi := (List.getElem?_eq_some_iff.1 h).1
    rw [stL_len] at hi
    refine ⟨hi, ?_⟩
    simp [stL, hi] at h
    exact h.symm
  refine ⟨stL_len _ _ _, fun i y h => ?_, fun y h => ?_, fun i y h hm => ?_, fun _ => ⟨rfl, .inr rfl, fun i y h => ?_⟩, fun _ => .inl rfl⟩
  · obtain ⟨hi, rfl⟩ := key i y h
    right
    show (if i < k ∧ staleB stale i = true then (33 : Int) else 0) = stI stale i
    unfold stI
    simp [hi]
  · obtain ⟨hi, rfl⟩ := key 0 y h
    exact ⟨by simp [stK], .inl (by simp [stK])⟩
  · obtain ⟨hi, rfl⟩ := key i y h
    simp [stK] at hm
  · obtain ⟨hi, rfl⟩ := key i y h
    exact ⟨rfl, fun e => by subst e; simp [stK]⟩
theorem hs_ok {k : Nat} {keep : Int} {x : Hs} {N : Nat} (hl : x.L.length ≤ 5) (hk : k ≤ 5) (hN : 10 ≤ N) : WdOk N (hsW k keep ep3 x) := by
  have h := (ndW_ok (t := 3) (k := k) (es := [⟨tolds k, List.replicate k 0, keep, 1, 201, 99, x.st, x.al⟩]) hk (by omega) (by simp [tolds_len]; omega)).up hN
  exact ⟨nkS_ok hl hN, h.ep, h.rt⟩
theorem cast_h {w0 w w' : World} {l : List Piece} (e : w = w') (h : Heap w0 w' l) : Heap w0 w l := e ▸ h
set_option maxHeartbeats 200000000 in
theorem HelpMany_walk (many : Int) (hmany : 0 ≤ many ∧ many ≤ 255) (keep0 : Int) (hkeep : 0 ≤ keep0 ∧ keep0 ≤ 255) (stale : Int) (hst : 0 ≤ stale ∧ stale ≤ 255) (helpers : Int) (hhl : 0 ≤ helpers ∧ helpers ≤ 255) (v : Value) (ys : List Int) (w : World) (R : RdV w v ys.length 1 (ys.map (Value.int .u8))) (hy : ∀ n ∈ ys, (Lit.int .u8 n).wf = true) :
    Calls Try.prog 12 #[.int .u8 many, .int .u8 keep0, .int .u8 stale, .int .u8 helpers, v] w fun e w' => e = .returned (.bool true) ∧ Below w.heap.size w w' := by
  obtain ⟨m0, m1⟩ := hmany
  obtain ⟨kp0, kp1⟩ := hkeep
  obtain ⟨s0, s1⟩ := hst
  obtain ⟨h0, h1⟩ := hhl
  have hshort := R.short
  obtain ⟨pa, pc, rfl⟩ := R.len
  have HR := Lib.hid R
  have HY : Hid (∀ n ∈ ys, 0 ≤ n ∧ n ≤ 255) := Lib.hid (fun n hn => bounds_u8 (hy n hn))
  clear R hy
  obtain ⟨k, hk⟩ : ∃ k : Nat, 1 + many % 4 = (k : Int) := ⟨(1 + many % 4).toNat, by omega⟩
  obtain ⟨keep, hkp⟩ : ∃ q : Nat, keep0 % 6 = (q : Int) := ⟨(keep0 % 6).toNat, by omega⟩
  obtain ⟨hn, hhn⟩ : ∃ r : Nat, 1 + helpers % 3 = (r : Int) := ⟨(1 + helpers % 3).toNat, by omega⟩
  have hnb : 1 ≤ hn ∧ hn ≤ 3 := by omega
  have hk1 : 1 ≤ k := by omega
  have hk4 : k ≤ 4 := by omega
  have hkeep5 : keep ≤ 5 := by omega
  by_cases hlen : 80 < ys.length
  · go_enter Try.func12, Try.ntmps12
    go_wp2_with fail
    refine (Awake9 w).mono ?_
    rintro e w1 ⟨rfl, F1⟩
    have B1 := Lib.hid ((Heap.start w).go F1).below
    clear F1
    go_wp2_with fail
    go_ret
    exact ⟨rfl, B1.out⟩
  · go_enter Try.func12, Try.ntmps12
    go_wp2_with fail
    refine (Awake9 w).mono ?_
    rintro e w1 ⟨rfl, F1⟩
    have CN := Lib.hid (Nodes_h ((Heap.start w).go F1) 3 k (by omega) (by omega))
    clear F1
    go_wp2_with fail
    try simp only [hk]
    refine CN.out.mono ?_
    rintro e w2 ⟨c, a, cp, _, rfl, H2⟩
    clear CN hk
    obtain ⟨v0, v1, v2, v3, v4, v5⟩ := wdL_cells H2
    have HH := Lib.hid H2
    clear H2
    go_upto_region 7 with fail
    go_cut [14] (fun s14 wx => ∃ rb g8, s14 = .pointer (some ⟨rb, 0, none⟩) ∧ Hid (Heap w wx (wdL c (ndW 3 k) ++ [rowP 29 1 (.slice a k cp) k (intC (tolds k)), blkP g8 2 (List.replicate k (.int .i64 0)).toArray, blkP rb 78 #[.slice a k cp, .slice (some ⟨g8, 0, none⟩) k k, .int .i64 (keep : Int), .int .i64 1, .int .i64 201, .int .i64 99]])))
    case first =>
      rcases (by omega : k = 1 ∨ k = 2 ∨ k = 3 ∨ k = 4) with hk9 | hk9 | hk9 | hk9
      · subst hk9
        have hmk : ∀ w, (Instr.makeSlice 35 (.int .i64 1) (.int .i64 1)).run Try.prog w = .ok (.slice (some ⟨w.heap.size, 0, none⟩) 1 1) (w.alloc (.cells #[.int .i64 0] 2)) := fun _ => by kernel_rfl
        have HB := (HH.out.alloc 2 #[.int .i64 0]).alloc 78 #[.slice a 1 cp, .slice (some ⟨w2.heap.size, 0, none⟩) 1 1, .int .i64 (keep : Int), .int .i64 1, .int .i64 201, .int .i64 99]
        rw [show (w2.alloc (.cells #[.int .i64 0] 2)).heap.size = w2.heap.size + 1 from by simp] at HB
        have HX := Lib.hid HB
        clear HB HH v0 v1 v2 v3 v4 v5
        go_wp2_with fail
        go_meet
        refine ⟨w2.heap.size + 1, w2.heap.size, rfl, Lib.hid ?_⟩
        have := HX.out
        rw [List.append_assoc, List.append_assoc] at this
        exact this
      · subst hk9
        have hmk : ∀ w, (Instr.makeSlice 35 (.int .i64 2) (.int .i64 2)).run Try.prog w = .ok (.slice (some ⟨w.heap.size, 0, none⟩) 2 2) (w.alloc (.cells #[.int .i64 0, .int .i64 0] 2)) := fun _ => by kernel_rfl
        have HB := (HH.out.alloc 2 #[.int .i64 0, .int .i64 0]).alloc 78 #[.slice a 2 cp, .slice (some ⟨w2.heap.size, 0, none⟩) 2 2, .int .i64 (keep : Int), .int .i64 1, .int .i64 201, .int .i64 99]
        rw [show (w2.alloc (.cells #[.int .i64 0, .int .i64 0] 2)).heap.size = w2.heap.size + 1 from by simp] at HB
        have HX := Lib.hid HB
        clear HB HH v0 v1 v2 v3 v4 v5
        go_wp2_with fail
        go_meet
        refine ⟨w2.heap.size + 1, w2.heap.size, rfl, Lib.hid ?_⟩
        have := HX.out
        rw [List.append_assoc, List.append_assoc] at this
        exact this
      · subst hk9
        have hmk : ∀ w, (Instr.makeSlice 35 (.int .i64 3) (.int .i64 3)).run Try.prog w = .ok (.slice (some ⟨w.heap.size, 0, none⟩) 3 3) (w.alloc (.cells #[.int .i64 0, .int .i64 0, .int .i64 0] 2)) := fun _ => by kernel_rfl
        have HB := (HH.out.alloc 2 #[.int .i64 0, .int .i64 0, .int .i64 0]).alloc 78 #[.slice a 3 cp, .slice (some ⟨w2.heap.size, 0, none⟩) 3 3, .int .i64 (keep : Int), .int .i64 1, .int .i64 201, .int .i64 99]
        rw [show (w2.alloc (.cells #[.int .i64 0, .int .i64 0, .int .i64 0] 2)).heap.size = w2.heap.size + 1 from by simp] at HB
        have HX := Lib.hid HB
        clear HB HH v0 v1 v2 v3 v4 v5
        go_wp2_with fail
        go_meet
        refine ⟨w2.heap.size + 1, w2.heap.size, rfl, Lib.hid ?_⟩
        have := HX.out
        rw [List.append_assoc, List.append_assoc] at this
        exact this
      · subst hk9
        have hmk : ∀ w, (Instr.makeSlice 35 (.int .i64 4) (.int .i64 4)).run Try.prog w = .ok (.slice (some ⟨w.heap.size, 0, none⟩) 4 4) (w.alloc (.cells #[.int .i64 0, .int .i64 0, .int .i64 0, .int .i64 0] 2)) := fun _ => by kernel_rfl
        have HB := (HH.out.alloc 2 #[.int .i64 0, .int .i64 0, .int .i64 0, .int .i64 0]).alloc 78 #[.slice a 4 cp, .slice (some ⟨w2.heap.size, 0, none⟩) 4 4, .int .i64 (keep : Int), .int .i64 1, .int .i64 201, .int .i64 99]
        rw [show (w2.alloc (.cells #[.int .i64 0, .int .i64 0, .int .i64 0, .int .i64 0] 2)).heap.size = w2.heap.size + 1 from by simp] at HB
        have HX := Lib.hid HB
        clear HB HH v0 v1 v2 v3 v4 v5
        go_wp2_with fail
        go_meet
        refine ⟨w2.heap.size + 1, w2.heap.size, rfl, Lib.hid ?_⟩
        have := HX.out
        rw [List.append_assoc, List.append_assoc] at this
        exact this
    case rest =>
      obtain ⟨rb, g8, rfl, HH⟩ := hcut
      rename World => w3
      clear v0 v1 v2 v3 v4 v5
      go_wp2_with fail
      have HH : Hid (Heap w w3 (wdL c { ndW 3 k with ar := nkS (stL stale k 0) } ++ [rowP 29 1 (.slice a k cp) k (intC (tolds k)), blkP g8 2 (List.replicate k (.int .i64 0)).toArray, blkP rb 78 #[.slice a k cp, .slice (some ⟨g8, 0, none⟩) k k, .int .i64 (keep : Int), .int .i64 1, .int .i64 201, .int .i64 99]])) := by rw [stL_zero]; exact HH
      go_loopw [15, 53] (fun s15 i wr => ∃ j : Nat, i = .int .i64 (j : Nat) ∧ j ≤ k ∧ s15 = .bool (staleA stale j) ∧ Hid (Heap w wr (wdL c { ndW 3 k with ar := nkS (stL stale k j) } ++ [rowP 29 1 (.slice a k cp) k (intC (tolds k)), blkP g8 2 (List.replicate k (.int .i64 0)).toArray, blkP rb 78 #[.slice a k cp, .slice (some ⟨g8, 0, none⟩) k k, .int .i64 (keep : Int), .int .i64 1, .int .i64 201, .int .i64 99]]))) (fun _ i _ => k - (intOf i).toNat)
      case atStart => exact ⟨0, rfl, Nat.zero_le _, rfl, HH⟩
      case round =>
        clear HH
        obtain ⟨j, rfl, hj, rfl, HH⟩ := hrel
        generalize hsa : staleA stale j = sa at *
        by_cases hlt : j < k
        · by_cases hb : staleB stale j = true
          · obtain ⟨hb1, hb2⟩ := staleB_yes hb
            have hb3 : ¬ stale < 128 := by omega
            have HN : Hid (staleA stale (j + 1) = true) := Lib.hid (staleA_yes hb)
            have HL : Hid ((stL stale k j).set j ⟨33, false, 200 + 10 * (j : Int), 201 + 10 * (j : Int)⟩ = stL stale k (j + 1)) := Lib.hid (stL_yes hb)
            have HG : Hid ((stL stale k j)[j]? = some ⟨0, false, 200 + 10 * (j : Int), 201 + 10 * (j : Int)⟩) := Lib.hid (stL_at hlt)
            clear hb hsa
            obtain ⟨v0, v1, v2, v3, v4, v5⟩ := wdL_cells HH.out
            go_upto_region 13 with fail
            go_cut [] (fun wx => Hid (Heap w wx (wdL c { ndW 3 k with ar := nkS (stL stale k (j + 1)) } ++ [rowP 29 1 (.slice a k cp) k (intC (tolds k)), blkP g8 2 (List.replicate k (.int .i64 0)).toArray, blkP rb 78 #[.slice a k cp, .slice (some ⟨g8, 0, none⟩) k k, .int .i64 (keep : Int), .int .i64 1, .int .i64 201, .int .i64 99]])))
            case first =>
              have HZ := HH.out.drew
              obtain ⟨g9, ee, hcc, hat⟩ := (HZ.row 4 (t := 29) (sz := 1) (n := k) (v := .slice a k cp) (us := intC (tolds k)) rfl).rdv.at (by omega)
              have ee : a = some g9 := by simpa using ee
              subst ee
              have y1 := hat j _ (tolds_get hlt)
              have q0 : wr.drew.cell? ⟨c.wb, 0, none⟩ = some (.pointer (some ⟨c.ab, 0, none⟩)) ∧ wr.drew.cell? (g9.add j) = some (.int .i64 (told j)) := ⟨(wdL_cells HZ).1, y1⟩
              have C := SwapInfo_h HZ 1 rfl ((nkS_ok (l := stL stale k j) (N := 10) (by rw [stL_len]; omega) (Nat.le_refl _)).ok (by omega)) (told j) 0 33
              rw [show ({ ndW 3 k with ar := nkS (stL stale k j) } : Wd).ar = nkS (stL stale k j) from rfl, nk_swapInfo HG.out (by rw [stL_len]; omega), if_pos rfl, HL.out] at C
              have C := Lib.hid C
              clear v0 v1 v2 v3 v4 v5 HZ hat y1 HH HL HG hb1 hb2 hb3
              refine wp_region_noPanic ?_
              refine AnyK.start (ks := [8]) (S := fun w' => w'.cell? ⟨c.wb, 0, none⟩ = some (.pointer (some ⟨c.ab, 0, none⟩)) ∧ w'.cell? (g9.add j) = some (.int .i64 (told j))) (by kernel_rfl) (by exact q0) (fun _ => ?_)
              refine AnyK.takeB (i := 0) (v := ?_) rfl (by kernel_rfl) (by kernel_rfl) (by kernel_rfl) (by kernel_rfl) (fun _ _ _ h => h) (Or.inl ⟨by rfl, ?_⟩) (by exact q0) ?_
              rotate_left
              focus
                intro w9 hSw
                try dsimp only at hSw
                go_simp
                try with_reducible rfl
              try simp only [Act.put, List.setIfInBounds_toArray, List.set_cons_zero, List.set_cons_succ]
              refine AnyK.takeB (i := 1) (v := ?_) rfl (by kernel_rfl) (by kernel_rfl) (by kernel_rfl) (by kernel_rfl) (fun _ _ _ h => h) (Or.inl ⟨by rfl, ?_⟩) (by exact q0) ?_
              rotate_left
              focus
                intro w9 hSw
                try dsimp only at hSw
                go_simp
                try with_reducible rfl
              try simp only [Act.put, List.setIfInBounds_toArray, List.set_cons_zero, List.set_cons_succ]
              refine AnyK.takeB (i := 2) (v := ?_) rfl (by kernel_rfl) (by kernel_rfl) (by kernel_rfl) (by kernel_rfl) (fun _ _ _ h => h) (Or.inl ⟨by rfl, ?_⟩) (by exact q0) ?_
              rotate_left
              focus
                intro w9 hSw
                try dsimp only at hSw
                go_simp
                try with_reducible rfl
              try simp only [Act.put, List.setIfInBounds_toArray, List.set_cons_zero, List.set_cons_succ]
              refine AnyK.takeB (i := 3) (v := ?_) rfl (by kernel_rfl) (by kernel_rfl) (by kernel_rfl) (by kernel_rfl) (fun _ _ _ h => h) (Or.inl ⟨by rfl, ?_⟩) (by exact q0) ?_
              rotate_left
              focus
                intro w9 hSw
                try dsimp only at hSw
                go_simp
                try with_reducible rfl
              try simp only [Act.put, List.setIfInBounds_toArray, List.set_cons_zero, List.set_cons_succ]
              refine AnyK.takeB (i := 4) (v := ?_) rfl (by kernel_rfl) (by kernel_rfl) (by kernel_rfl) (by kernel_rfl) (fun _ _ _ h => h) (Or.inl ⟨by rfl, ?_⟩) (by exact q0) ?_
              rotate_left
              focus
                intro w9 hSw
                try dsimp only at hSw
                go_simp
                try with_reducible rfl
              try simp only [Act.put, List.setIfInBounds_toArray, List.set_cons_zero, List.set_cons_succ]
              refine AnyK.takeB (i := 5) (v := ?_) rfl (by kernel_rfl) (by kernel_rfl) (by kernel_rfl) (by kernel_rfl) (fun _ _ _ h => h) (Or.inl ⟨by rfl, ?_⟩) (by exact q0) ?_
              rotate_left
              focus
                intro w9 hSw
                try dsimp only at hSw
                go_simp
                try with_reducible rfl
              try simp only [Act.put, List.setIfInBounds_toArray, List.set_cons_zero, List.set_cons_succ]
              refine AnyK.takeB (i := 6) (v := ?_) rfl (by kernel_rfl) (by kernel_rfl) (by kernel_rfl) (by kernel_rfl) (fun _ _ _ h => h) (Or.inl ⟨by rfl, ?_⟩) (by exact q0) ?_
              rotate_left
              focus
                intro w9 hSw
                try dsimp only at hSw
                go_simp
                try with_reducible rfl
              try simp only [Act.put, List.setIfInBounds_toArray, List.set_cons_zero, List.set_cons_succ]
              refine AnyK.takeB (i := 7) (v := ?_) rfl (by kernel_rfl) (by kernel_rfl) (by kernel_rfl) (by kernel_rfl) (fun _ _ _ h => h) (Or.inl ⟨by rfl, ?_⟩) (by exact q0) ?_
              rotate_left
              focus
                intro w9 hSw
                try dsimp only at hSw
                go_simp
                try with_reducible rfl
              try simp only [Act.put, List.setIfInBounds_toArray, List.set_cons_zero, List.set_cons_succ]
              refine AnyK.one (i := 8) (by kernel_rfl) rfl (fun K9 hK9 => ?_)
              go_simp
              refine C.out.mono ?_
              rintro e y9 ⟨rfl, H9⟩
              refine hK9.out _ _ (fun hx => absurd (by decide) hx) ?_
              clear hK9 K9
              try simp only [Act.put, List.setIfInBounds_toArray, List.set_cons_zero, List.set_cons_succ]
              refine AnyK.done (by kernel_rfl) ?_ _
              refine NoPanic.normal ?_
              go_wp2_with fail
              go_meet
              exact Lib.hid H9
            case rest =>
              have HX := hcut
              clear v0 v1 v2 v3 v4 v5 HH hcut HG HL hb1 hb2 hb3
              go_wp2_with fail
              exact ⟨⟨j + 1, by go_num, by omega, by rw [HN.out], HX⟩, by simp [intOf]; omega⟩
          · have HN : Hid (staleA stale (j + 1) = sa) := Lib.hid (by rw [← hsa]; exact staleA_no hb)
            have HX : Hid (Heap w wr (wdL c { ndW 3 k with ar := nkS (stL stale k (j + 1)) } ++ [rowP 29 1 (.slice a k cp) k (intC (tolds k)), blkP g8 2 (List.replicate k (.int .i64 0)).toArray, blkP rb 78 #[.slice a k cp, .slice (some ⟨g8, 0, none⟩) k k, .int .i64 (keep : Int), .int .i64 1, .int .i64 201, .int .i64 99]])) := by rw [stL_no hb]; exact HH
            have hb1 := staleB_no hb
            clear hb hsa HH
            rcases hb1 with hb1 | ⟨hb1, hb2⟩
            · go_wp2_with fail
              exact ⟨⟨j + 1, by go_num, by omega, by rw [HN.out], HX⟩, by simp [intOf]; omega⟩
            · go_wp2_with fail
              exact ⟨⟨j + 1, by go_num, by omega, by rw [HN.out], HX⟩, by simp [intOf]; omega⟩
        · have hkj : j = k := by omega
          subst hkj
          go_wp2_with fail
          rename World => w4
          have HZ := HH.out.drew
          have BR := HZ.blk 6 (b := rb) (t := 78) (c := #[.slice a j cp, .slice (some ⟨g8, 0, none⟩) j j, .int .i64 (keep : Int), .int .i64 1, .int .i64 201, .int .i64 99]) rfl
          have q0 : World.cell? w4.drew ⟨c.wb, 1, none⟩ = some (.pointer (some ⟨c.rb, 0, none⟩)) ∧ World.cell? w4.drew ⟨rb, 0, none⟩ = some (.slice a j cp) ∧ World.cell? w4.drew ⟨rb, 1, none⟩ = some (.slice (some ⟨g8, 0, none⟩) j j) ∧ World.cell? w4.drew ⟨rb, 2, none⟩ = some (.int .i64 (keep : Int)) ∧ World.cell? w4.drew ⟨rb, 3, none⟩ = some (.int .i64 1) ∧ World.cell? w4.drew ⟨rb, 4, none⟩ = some (.int .i64 201) ∧ World.cell? w4.drew ⟨rb, 5, none⟩ = some (.int .i64 99) := ⟨(wdL_cells HZ).2.1, BR.cell 0, BR.cell 1, BR.cell 2, BR.cell 3, BR.cell 4, BR.cell 5⟩
          have C := Make_h HZ 2 rfl (myR j keep) (.slice a j cp) (.slice (some ⟨g8, 0, none⟩) j j) (by
            show RdV _ _ (tolds j).length 1 _
            rw [tolds_len]
            exact (HZ.row 4 (t := 29) (sz := 1) (n := j) (v := .slice a j cp) (us := intC (tolds j)) rfl).rdv) (by
            show RdV _ _ (List.replicate j (0 : Int)).length 1 (intC (List.replicate j 0))
            rw [List.length_replicate]
            have := RdV.block (cs := (List.replicate j (.int .i64 0)).toArray) (t := 2) (g := g8) (m := j) (sz := 1) (HZ.blk 5 rfl) (by simp) (by unfold maxLen; omega)
            simpa [intC] using this) (by show (tolds j).length ≤ 1000000; rw [tolds_len]; omega) (by show (List.replicate j (0 : Int)).length ≤ 1000000; rw [List.length_replicate]; omega)
          have hmk : makeRt (myR j keep) ⟨[], 40⟩ = ((1, true), ⟨[(myR j keep).ent], 40⟩) := by
            unfold makeRt
            rw [if_pos ⟨by show (tolds j).length = (List.replicate j (0 : Int)).length; rw [tolds_len, List.length_replicate], by show (0 : Int) ≤ (keep : Int); omega, by show ((0 : Nat) : Int) < 40; omega⟩]
            rfl
          rw [show ({ ndW 3 j with ar := nkS (stL stale j j) } : Wd).rt = ⟨[], 40⟩ from rfl, hmk] at C
          have C := Lib.hid C
          clear HZ BR hmk HH
          go_upto_region 16 with fail
          go_cut [17, 18] (fun s17 s18 wx => s17 = .int .i64 1 ∧ s18 = .bool true ∧ Hid (Heap w wx (wdL c (hsW j keep ep3 ⟨stL stale j j, 1, false⟩) ++ [rowP 29 1 (.slice a j cp) j (intC (tolds j)), blkP rb 78 #[.slice a j cp, .slice (some ⟨g8, 0, none⟩) j j, .int .i64 (keep : Int), .int .i64 1, .int .i64 201, .int .i64 99]])))
          case first =>
            refine wp_region_noPanic ?_
            refine AnyK.start (ks := [5, 6, 7, 8, 9, 10]) (S := fun w' => w'.cell? ⟨c.wb, 1, none⟩ = some (.pointer (some ⟨c.rb, 0, none⟩)) ∧ w'.cell? ⟨rb, 0, none⟩ = some (.slice a j cp) ∧ w'.cell? ⟨rb, 1, none⟩ = some (.slice (some ⟨g8, 0, none⟩) j j) ∧ w'.cell? ⟨rb, 2, none⟩ = some (.int .i64 (keep : Int)) ∧ w'.cell? ⟨rb, 3, none⟩ = some (.int .i64 1) ∧ w'.cell? ⟨rb, 4, none⟩ = some (.int .i64 201) ∧ w'.cell? ⟨rb, 5, none⟩ = some (.int .i64 99)) (by kernel_rfl) (by exact q0) (fun _ => ?_)
            refine AnyK.takeB (i := 0) (v := ?_) rfl (by kernel_rfl) (by kernel_rfl) (by kernel_rfl) (by kernel_rfl) (fun _ _ _ h => h) (Or.inl ⟨by rfl, ?_⟩) (by exact q0) ?_
            rotate_left
            focus
              intro w9 hSw
              try dsimp only at hSw
              go_simp
              try with_reducible rfl
            try simp only [Act.put, List.setIfInBounds_toArray, List.set_cons_zero, List.set_cons_succ]
            refine AnyK.takeB (i := 1) (v := ?_) rfl (by kernel_rfl) (by kernel_rfl) (by kernel_rfl) (by kernel_rfl) (fun _ _ _ h => h) (Or.inl ⟨by rfl, ?_⟩) (by exact q0) ?_
            rotate_left
            focus
              intro w9 hSw
              try dsimp only at hSw
              go_simp
              try with_reducible rfl
            try simp only [Act.put, List.setIfInBounds_toArray, List.set_cons_zero, List.set_cons_succ]
            refine AnyK.takeB (i := 2) (v := ?_) rfl (by kernel_rfl) (by kernel_rfl) (by kernel_rfl) (by kernel_rfl) (fun _ _ _ h => h) (Or.inl ⟨by rfl, ?_⟩) (by exact q0) ?_
            rotate_left
            focus
              intro w9 hSw
              try dsimp only at hSw
              go_simp
              try with_reducible rfl
            try simp only [Act.put, List.setIfInBounds_toArray, List.set_cons_zero, List.set_cons_succ]
            refine AnyK.takeB (i := 3) (v := ?_) rfl (by kernel_rfl) (by kernel_rfl) (by kernel_rfl) (by kernel_rfl) (fun _ _ _ h => h) (Or.inl ⟨by rfl, ?_⟩) (by exact q0) ?_
            rotate_left
            focus
              intro w9 hSw
              try dsimp only at hSw
              go_simp
              try with_reducible rfl
            try simp only [Act.put, List.setIfInBounds_toArray, List.set_cons_zero, List.set_cons_succ]
            refine AnyK.takeB (i := 4) (v := ?_) rfl (by kernel_rfl) (by kernel_rfl) (by kernel_rfl) (by kernel_rfl) (fun _ _ _ h => h) (Or.inl ⟨by rfl, ?_⟩) (by exact q0) ?_
            rotate_left
            focus
              intro w9 hSw
              try dsimp only at hSw
              go_simp
              try with_reducible rfl
            try simp only [Act.put, List.setIfInBounds_toArray, List.set_cons_zero, List.set_cons_succ]
            refine AnyK.one (i := 5) (by kernel_rfl) rfl (fun K9 hK9 => ?_)
            go_simp
            refine C.out.mono ?_
            rintro e y9 ⟨rfl, H9⟩
            refine hK9.out _ _ (fun hx => absurd (by decide) hx) ?_
            clear hK9 K9
            try simp only [Act.put, List.setIfInBounds_toArray, List.set_cons_zero, List.set_cons_succ]
            refine AnyK.phase (S' := fun _ => True) (ks' := []) (by kernel_rfl) ?_
            refine AnyK.take (i := 6) (v := ?_) rfl (by kernel_rfl) (by kernel_rfl) (by kernel_rfl) (by kernel_rfl) (fun _ _ _ h => h) (Or.inl ⟨by rfl, ?_⟩) (by exact trivial) ?_
            rotate_left
            focus
              intro w9 hSw
              try dsimp only at hSw
              go_simp
              try with_reducible rfl
            try simp only [Act.put, List.setIfInBounds_toArray, List.set_cons_zero, List.set_cons_succ]
            refine AnyK.take (i := 7) (v := ?_) rfl (by kernel_rfl) (by kernel_rfl) (by kernel_rfl) (by kernel_rfl) (fun _ _ _ h => h) (Or.inl ⟨by rfl, ?_⟩) (by exact trivial) ?_
            rotate_left
            focus
              intro w9 hSw
              try dsimp only at hSw
              go_simp
              try with_reducible rfl
            try simp only [Act.put, List.setIfInBounds_toArray, List.set_cons_zero, List.set_cons_succ]
            refine AnyK.take (i := 8) (v := ?_) rfl (by kernel_rfl) (by kernel_rfl) (by kernel_rfl) (by kernel_rfl) (fun _ _ _ h => h) (Or.inl ⟨by rfl, ?_⟩) (by exact trivial) ?_
            rotate_left
            focus
              intro w9 hSw
              try dsimp only at hSw
              go_simp
              try with_reducible rfl
            try simp only [Act.put, List.setIfInBounds_toArray, List.set_cons_zero, List.set_cons_succ]
            refine AnyK.take (i := 9) (v := ?_) rfl (by kernel_rfl) (by kernel_rfl) (by kernel_rfl) (by kernel_rfl) (fun _ _ _ h => h) (Or.inl ⟨by rfl, ?_⟩) (by exact trivial) ?_
            rotate_left
            focus
              intro w9 hSw
              try dsimp only at hSw
              go_simp
              try with_reducible rfl
            try simp only [Act.put, List.setIfInBounds_toArray, List.set_cons_zero, List.set_cons_succ]
            refine AnyK.take (i := 10) (v := ?_) rfl (by kernel_rfl) (by kernel_rfl) (by kernel_rfl) (by kernel_rfl) (fun _ _ _ h => h) (Or.inl ⟨by rfl, ?_⟩) (by exact trivial) ?_
            rotate_left
            focus
              intro w9 hSw
              try dsimp only at hSw
              go_simp
              try with_reducible rfl
            try simp only [Act.put, List.setIfInBounds_toArray, List.set_cons_zero, List.set_cons_succ]
            refine AnyK.done (by kernel_rfl) ?_ _
            refine NoPanic.normal ?_
            have H9 : Heap w y9 ((wdL c (hsW j keep ep3 ⟨stL stale j j, 1, false⟩) ++ [rowP 29 1 (.slice a j cp) j (intC (tolds j))]) ++ [blkP g8 2 (List.replicate j (.int .i64 0)).toArray] ++ [blkP rb 78 #[.slice a j cp, .slice (some ⟨g8, 0, none⟩) j j, .int .i64 (keep : Int), .int .i64 1, .int .i64 201, .int .i64 99]]) := H9
            have HF := Lib.hid H9.mid
            clear H9
            go_wp2_with fail
            go_meet
            exact ⟨rfl, rfl, by have := HF.out; rw [List.append_assoc] at this; exact Lib.hid this⟩
          case rest =>
            obtain ⟨rfl, rfl, HH⟩ := hcut
            clear q0 C
            obtain ⟨q, hq1, hq2, hq3, hq4⟩ := stale_first stale j
            have HOK := Lib.hid (st_ok (keep := (keep : Int)) hk1 hk4 (by omega) hq1 hq2 hq3)
            have hqs : sa = decide (q < j) := hsa.symm.trans hq4
            have HQK := Lib.hid hqs
            obtain ⟨i0, hi0, hz0, hz1, hz2⟩ := info_parts info_thp
            have I0 := Lib.hid (And.intro hi0 (And.intro hz0 (And.intro hz1 hz2)))
            have HB : Hid (∃ ws Ts, Begun 1 ws Ts ∧ ws.length = 0 ∧ ∃ (la : Option Addr) (lc : Nat), (Value.slice none 0 0 : Value) = .slice la 0 lc ∧ Heap w _ (wdL c (hsW j keep ep3 ⟨stL stale j j, 1, false⟩) ++ ([rowP 29 1 (.slice a j cp) j (intC (tolds j)), blkP rb 78 #[.slice a j cp, .slice (some ⟨g8, 0, none⟩) j j, .int .i64 (keep : Int), .int .i64 1, .int .i64 201, .int .i64 99]] ++ allG c ws Ts) ++ [rowP 38 1 (.slice la 0 lc) 0 (ptrs ws)])) := Lib.hid ⟨[], [], Begun.nil 1, rfl, none, 0, rfl, by
              have := HH.out.rowNil 38 1
              simpa [allG, ptrs, List.append_assoc] using this⟩
            clear hi0 hz0 hz1 hz2 hq1 hq2 hq3 hq4 hqs hsa HH hlt
            go_wp2_with fail
            try simp only [hhn]
            clear hhn
            go_loopw [19, 88] (fun s19 i wr => ∃ kk : Nat, i = .int .i64 (kk : Nat) ∧ kk ≤ hn ∧ Hid (∃ ws Ts, Begun 1 ws Ts ∧ ws.length = kk ∧ ∃ (la : Option Addr) (lc : Nat), s19 = .slice la kk lc ∧ Heap w wr (wdL c (hsW j keep ep3 ⟨stL stale j j, 1, false⟩) ++ ([rowP 29 1 (.slice a j cp) j (intC (tolds j)), blkP rb 78 #[.slice a j cp, .slice (some ⟨g8, 0, none⟩) j j, .int .i64 (keep : Int), .int .i64 1, .int .i64 201, .int .i64 99]] ++ allG c ws Ts) ++ [rowP 38 1 (.slice la kk lc) kk (ptrs ws)]))) (fun _ i _ => hn - (intOf i).toNat)
            case atStart => exact ⟨0, rfl, Nat.zero_le _, HB⟩
            case round =>
              clear HB
              obtain ⟨kk, rfl, hkk, HB⟩ := hrel
              obtain ⟨ws, Ts, hbg, hwl, la, lc, rfl, H0⟩ := HB.out
              by_cases hlt : kk < hn
              · have C := Lib.hid (helper_start H0 c.wb (kk : Int) 1)
                have HBG := Lib.hid (And.intro hbg hwl)
                clear H0 HB hbg hwl
                go_wp2_with fail
                refine C.out.mono ?_
                rintro e w5 ⟨nb, b9, rfl, H5⟩
                have H6 := (H5 c rfl).swapEnd
                have H6 : Heap w w5 (wdL c (hsW j keep ep3 ⟨stL stale j j, 1, false⟩) ++ ([rowP 29 1 (.slice a j cp) j (intC (tolds j)), blkP rb 78 #[.slice a j cp, .slice (some ⟨g8, 0, none⟩) j j, .int .i64 (keep : Int), .int .i64 1, .int .i64 201, .int .i64 99]] ++ allG c (ws ++ [mkW nb b9 (kk : Int) 1]) (Ts ++ [newTh (stV b9)])) ++ [rowP 38 1 (.slice la kk lc) kk (ptrs ws)]) := by
                  rw [allG_snoc _ _ _ _ _ HBG.out.1.len.symm]
                  simpa [List.append_assoc] using H6
                have HX := Lib.hid H6
                have QQ := Lib.hid (H6.row ((wdL c (hsW j keep ep3 ⟨stL stale j j, 1, false⟩) ++ ([rowP 29 1 (.slice a j cp) j (intC (tolds j)), blkP rb 78 #[.slice a j cp, .slice (some ⟨g8, 0, none⟩) j j, .int .i64 (keep : Int), .int .i64 1, .int .i64 201, .int .i64 99]] ++ allG c (ws ++ [mkW nb b9 (kk : Int) 1]) (Ts ++ [newTh (stV b9)]))).length) (t := 38) (sz := 1) (n := kk) (v := .slice la kk lc) (us := ptrs ws) (by simp))
                have hlm' : kk + 1 ≤ maxLen := by unfold maxLen; omega
                have hlb2 : (kk + 1) * 8 ≤ 140737488355328 := by omega
                have HL := Lib.hid (And.intro hlm' hlb2)
                clear C H5 H6 hlm' hlb2
                go_wp2_with (at_builtin; refine wpList_append_typed _ rfl _ _ _ (by rfl) 38 i0 (.pointer none) 1 8 Try.underlying48 I0.out.1 I0.out.2.1 I0.out.2.2.1 I0.out.2.2.2 rfl (by decide) (.slice la kk lc) kk (ptrs ws) (by rfl) (QQ.out.fr (F := nob) (by repeat (first | exact Fr.refl _ _ | apply Fr.drew | apply Fr.alloc)) (fun _ _ _ x => x)) _ 1 [.pointer (some ⟨b9 + 3, 0, none⟩)] (by rfl) (RdV.block (cs := #[.pointer (some ⟨b9 + 3, 0, none⟩)]) (t := 38) (by repeat (first | exact Blk.new' rfl _ _ | apply Blk.drew | apply Blk.alloc)) rfl (by decide)) (by simp [Value.oneCell']) HL.out.1 HL.out.2 ?_)
                intro a' c' w6 q' grow hat'
                have G := HX.out.growRow ((wdL c (hsW j keep ep3 ⟨stL stale j j, 1, false⟩) ++ ([rowP 29 1 (.slice a j cp) j (intC (tolds j)), blkP rb 78 #[.slice a j cp, .slice (some ⟨g8, 0, none⟩) j j, .int .i64 (keep : Int), .int .i64 1, .int .i64 201, .int .i64 99]] ++ allG c (ws ++ [mkW nb b9 (kk : Int) 1]) (Ts ++ [newTh (stV b9)]))).length) (t := 38) (sz := 1) (n := kk) (v := .slice la kk lc) (us := ptrs ws) (by simp) (Fr.alloc (Fr.refl nob w5) (.cells #[.pointer (some ⟨b9 + 3, 0, none⟩)] 38)) q' grow (fun g hg => (hat' g hg).imp_left (fun h => h.imp_right (fun h => by simpa using h)))
                rw [List.set_append_right _ _ (Nat.le_refl _), Nat.sub_self, List.set_cons_zero, ptrs_snoc ws nb b9 (kk : Int) 1] at G
                have HB5 : Hid (∃ ws Ts, Begun 1 ws Ts ∧ ws.length = kk + 1 ∧ ∃ (la : Option Addr) (lc : Nat), (Value.slice a' (kk + 1) c' : Value) = .slice la (kk + 1) lc ∧ Heap w w6 (wdL c (hsW j keep ep3 ⟨stL stale j j, 1, false⟩) ++ ([rowP 29 1 (.slice a j cp) j (intC (tolds j)), blkP rb 78 #[.slice a j cp, .slice (some ⟨g8, 0, none⟩) j j, .int .i64 (keep : Int), .int .i64 1, .int .i64 201, .int .i64 99]] ++ allG c ws Ts) ++ [rowP 38 1 (.slice la (kk + 1) lc) (kk + 1) (ptrs ws)])) := Lib.hid ⟨_, _, HBG.out.1.snoc nb b9 (kk : Int), by simp [HBG.out.2], a', c', rfl, G⟩
                clear G q' grow hat' QQ HX HL HBG
                go_wp2_with fail
                exact ⟨⟨kk + 1, by go_num, by omega, HB5⟩, by simp [intOf]; omega⟩
              · have hkn : kk = hn := by omega
                subst hkn
                have HWL := Lib.hid hwl
                have HS : Hid (∃ s1 Ts1 Y, Squad (myG j keep q (stI stale) ep3 1) c w ws [rowP 29 1 (.slice a j cp) j (intC (tolds j)), blkP rb 78 #[.slice a j cp, .slice (some ⟨g8, 0, none⟩) j j, .int .i64 (keep : Int), .int .i64 1, .int .i64 201, .int .i64 99]] wr (10 + 0) s1 Ts1 ([rowP 38 1 (.slice la kk lc) kk (ptrs ws)] ++ Y) ∧ stateRt 1 s1.rt = 1) := Lib.hid ⟨_, Ts, [], by
                  rw [List.append_nil]
                  exact begun_squad HOK.out st_inv hbg (hs_ok (by dsimp only; rw [stL_len]; omega) (by omega) (Nat.le_refl _)) H0, rfl⟩
                have HP := Lib.hid hbg
                obtain ⟨hh1, hh3⟩ := hnb
                clear H0 HB hbg hwl
                rename World => w7
                go_wp2_with fail
                clear hlt hkk
                go_loopw [21, 101] (fun s21 i wr => ∃ (k3 : Nat) (σ : Int), i = .int .i64 (k3 : Nat) ∧ k3 ≤ ys.length ∧ s21 = .int .u8 σ ∧ Hid (∃ s1 Ts1 Y, Squad (myG j keep q (stI stale) ep3 σ) c w ws [rowP 29 1 (.slice a j cp) j (intC (tolds j)), blkP rb 78 #[.slice a j cp, .slice (some ⟨g8, 0, none⟩) j j, .int .i64 (keep : Int), .int .i64 1, .int .i64 201, .int .i64 99]] wr (10 + k3) s1 Ts1 ([rowP 38 1 (.slice la kk lc) kk (ptrs ws)] ++ Y) ∧ stateRt 1 s1.rt = σ)) (fun _ i _ => ys.length - (intOf i).toNat)
                case atStart => exact ⟨0, 1, rfl, Nat.zero_le _, rfl, HS⟩
                case round =>
                  clear HS
                  obtain ⟨k3, σ, rfl, hk3, rfl, HS⟩ := hrel
                  obtain ⟨s1, Ts1, Y, hs, hσ⟩ := HS.out
                  by_cases hlt3 : k3 < ys.length
                  · obtain ⟨a1, ea, hc1, hat1⟩ := (HR.out.fr hs.heap.fr (fun _ _ _ x => x)).at (by omega)
                    have ea : pa = some a1 := by simpa using ea
                    obtain ⟨y, hyk⟩ : ∃ y, ys[k3]? = some y := ⟨_, List.getElem?_eq_getElem hlt3⟩
                    have y1 := hat1 k3 (.int .u8 y) (by simp [hyk])
                    obtain ⟨yy0, y255⟩ := HY.out y (List.mem_of_getElem? hyk)
                    obtain ⟨t, ht⟩ : ∃ t : Nat, y % (kk : Int) = (t : Int) := ⟨(y % (kk : Int)).toNat, by have := Int.emod_nonneg y (b := (kk : Int)) (by omega); omega⟩
                    have htl : t < kk := by have := Int.emod_lt_of_pos y (b := (kk : Int)) (by omega); omega
                    obtain ⟨x, hx⟩ : ∃ x, ws[t]? = some x := ⟨_, List.getElem?_eq_getElem (by rw [HWL.out]; exact htl)⟩
                    obtain ⟨T, hT⟩ := hs.get hx
                    have C := Lib.hid (Step_sys hs (begun_plays HOK.out HP.out) hx hT (begun_does HP.out t x hx) (by omega))
                    obtain ⟨a2, ea2, hc2, hat2⟩ := (hs.row (j := 0) (t := 38) (sz := 1) (n := kk) (v := .slice la kk lc) (us := ptrs ws) rfl).rdv.at (by omega)
                    have ea2 : la = some a2 := by simpa using ea2
                    have y2 := hat2 t _ (ptrs_get hx)
                    obtain ⟨x1, hx1, hv1, _⟩ := hs.now
                    subst hx1
                    have hσ : x1.st = σ := hσ
                    have HV1 := Lib.hid hv1
                    subst ea ea2
                    have hm0 : ((kk : Int) == 0) = false := beq_eq_false_iff_ne.2 (by omega)
                    clear hs hat1 hat2 hyk hc1 hc2 hx hT HS hv1
                    go_wp2_with fail
                    try simp only [ht]
                    refine C.out.mono ?_
                    rintro e w9 ⟨b, s2, T2, Y2, rfl, H2, _⟩
                    rw [List.append_assoc] at H2
                    obtain ⟨x2, hx2, hv2, hσ2, H3⟩ := H2.now
                    subst hx2
                    have HQ : Hid (∃ s1 Ts1 Y, Squad (myG j keep q (stI stale) ep3 x2.st) c w ws [rowP 29 1 (.slice a j cp) j (intC (tolds j)), blkP rb 78 #[.slice a j cp, .slice (some ⟨g8, 0, none⟩) j j, .int .i64 (keep : Int), .int .i64 1, .int .i64 201, .int .i64 99]] w9 (10 + (k3 + 1)) s1 Ts1 ([rowP 38 1 (.slice (some a2) kk lc) kk (ptrs ws)] ++ Y) ∧ stateRt 1 s1.rt = x2.st) := Lib.hid ⟨_, _, _, H3, rfl⟩
                    have hH := H3.heap
                    rw [List.append_assoc] at hH
                    obtain ⟨v0, v1, v2, v3, v4, v5⟩ := wdL_cells hH
                    have CST := Lib.hid (show Calls Try.prog 56 #[.pointer (some ⟨c.rb, 0, none⟩), .int .i64 1] w9 (fun e w' => e = .returned (.int .u8 x2.st) ∧ w' = w9) from State_h hH 2 rfl 1)
                    have HV2 := Lib.hid hv2
                    clear C H2 H3 hH hv2 y1 y2 ht htl hm0 yy0 y255
                    go_upto_region 28 with fail
                    go_wp2_with fail
                    refine CST.out.mono ?_
                    rintro e w' ⟨rfl, hw⟩
                    have hw := hw.symm
                    subst hw
                    clear CST v0 v1 v2 v3 v4 v5
                    have HT : Hid ((q < j → x2.st = 0 ∨ x2.st = 1) ∧ (q = j → x2.st = 1 ∨ x2.st = 2)) := Lib.hid ⟨fun h => (HV2.out.bad h).2.1, HV2.out.good⟩
                    clear HV2
                    generalize x2.st = τ at *
                    have hrt : x1.st = σ := hσ
                    rcases (by have := HOK.out.qk; omega : q < j ∨ q = j) with hq | hq
                    · have hsa2 : sa = true := by rw [HQK.out, decide_eq_true hq]
                      have hb1 := (HV1.out.bad hq).2.1
                      rw [hσ] at hb1
                      have hb2 : τ = 0 ∨ τ = 1 := HT.out.1 hq
                      subst hsa2
                      rcases (by omega : (σ = 0 ∧ τ = 0) ∨ (σ = 1 ∧ τ = 0) ∨ (σ = 1 ∧ τ = 1)) with ⟨ha, hb⟩ | ⟨ha, hb⟩ | ⟨ha, hb⟩
                      · subst ha hb
                        clear hσ2
                        go_wp2_with fail
                        refine ⟨⟨k3 + 1, 0, by go_num, by omega, rfl, ?_⟩, by simp [intOf]; omega⟩
                        exact HQ
                      · subst ha hb
                        clear hσ2
                        go_wp2_with fail
                        refine ⟨⟨k3 + 1, 0, by go_num, by omega, rfl, ?_⟩, by simp [intOf]; omega⟩
                        exact HQ
                      · subst ha hb
                        clear hσ2
                        go_wp2_with fail
                        refine ⟨⟨k3 + 1, 1, by go_num, by omega, rfl, ?_⟩, by simp [intOf]; omega⟩
                        exact HQ
                    · have hsa2 : sa = false := by rw [HQK.out, decide_eq_false (by omega)]
                      have hb1 := HV1.out.good hq
                      rw [hσ] at hb1
                      have hb2 : τ = 1 ∨ τ = 2 := HT.out.2 hq
                      subst hsa2
                      rcases (by omega : (σ = 2 ∧ τ = 2) ∨ (σ = 1 ∧ τ = 2) ∨ (σ = 1 ∧ τ = 1)) with ⟨ha, hb⟩ | ⟨ha, hb⟩ | ⟨ha, hb⟩
                      · subst ha hb
                        clear hσ2
                        go_wp2_with fail
                        refine ⟨⟨k3 + 1, 2, by go_num, by omega, rfl, ?_⟩, by simp [intOf]; omega⟩
                        exact HQ
                      · subst ha hb
                        clear hσ2
                        go_wp2_with fail
                        refine ⟨⟨k3 + 1, 2, by go_num, by omega, rfl, ?_⟩, by simp [intOf]; omega⟩
                        exact HQ
                      · subst ha hb
                        clear hσ2
                        go_wp2_with fail
                        refine ⟨⟨k3 + 1, 1, by go_num, by omega, rfl, ?_⟩, by simp [intOf]; omega⟩
                        exact HQ
                  · have CM := Mixed_sys hs (begun_plays HOK.out HP.out) (begun_does HP.out) (by rw [HWL.out]; exact hh1) (by rw [HWL.out]; omega) (la := la) (lc := lc) (jr := 0) (by rw [HWL.out]; rfl) (.slice none 0 0) [] (RdV_nil _ _) (by simp) (by simp) (fun i l s _ => by show 40 - l.length ≤ 2000; omega) (by omega)
                    rw [HWL.out] at CM
                    have CM := Lib.hid CM
                    clear hs HS hσ
                    go_wp2_with fail
                    refine CM.out.mono ?_
                    rintro e w9 ⟨s8, Ts8, Y8, N8, hN8, rfl, H8, hall⟩
                    rw [List.append_assoc] at H8
                    obtain ⟨x8, hx8, hv8, _, H9⟩ := H8.now
                    subst hx8
                    obtain ⟨x0, hx0⟩ : ∃ x, ws[0]? = some x := ⟨_, List.getElem?_eq_getElem (by rw [HWL.out]; omega)⟩
                    obtain ⟨T0, hT0⟩ := H9.get hx0
                    obtain ⟨v9, _, _, _, _, hD0, _⟩ := (H9.ths 0 x0 T0 hx0 hT0).over (hall 0 T0 hT0)
                    obtain ⟨x9, hx9, hF9⟩ := hD0
                    have hx9 := hsW_inj hx9
                    subst hx9
                    have HF := Lib.hid (And.intro hF9 (And.intro hv8 hall))
                    have HS : Hid (∃ Y, Squad (myG j keep q (stI stale) ep3 x8.st) c w ws [rowP 29 1 (.slice a j cp) j (intC (tolds j)), blkP rb 78 #[.slice a j cp, .slice (some ⟨g8, 0, none⟩) j j, .int .i64 (keep : Int), .int .i64 1, .int .i64 201, .int .i64 99]] w9 N8 (hsW j keep ep3 x8) Ts8 ([rowP 38 1 (.slice la kk lc) kk (ptrs ws)] ++ Y)) := Lib.hid ⟨_, H9⟩
                    have hN9 : N8 ≤ 10 + 80 + 2001 * 3 := by have : ([] : List Int).length = 0 := rfl; omega
                    clear CM H8 H9 hall hx0 hT0 hv8 hF9 hN8
                    rcases (by have := HOK.out.qk; omega : q < j ∨ q = j) with hq | hq
                    · have hsa2 : sa = true := by rw [HQK.out, decide_eq_true hq]
                      subst hsa2
                      rename World => w10
                      go_wp2_with fail
                      go_loopw [149] (fun i wr => ∃ k4 : Nat, i = .int .i64 (k4 : Nat) ∧ k4 ≤ kk ∧ Hid (∃ Y, Squad (myG j keep q (stI stale) ep3 x8.st) c w ws [rowP 29 1 (.slice a j cp) j (intC (tolds j)), blkP rb 78 #[.slice a j cp, .slice (some ⟨g8, 0, none⟩) j j, .int .i64 (keep : Int), .int .i64 1, .int .i64 201, .int .i64 99]] wr N8 (hsW j keep ep3 x8) Ts8 ([rowP 38 1 (.slice la kk lc) kk (ptrs ws)] ++ Y))) (fun i _ => kk - (intOf i).toNat)
                      case atStart => exact ⟨0, rfl, Nat.zero_le _, HS⟩
                      case round =>
                        clear HS
                        obtain ⟨k4, rfl, hk4', HS⟩ := hrel
                        obtain ⟨Y, hs⟩ := HS.out
                        by_cases hlt4 : k4 < kk
                        · obtain ⟨x, hx⟩ : ∃ x, ws[k4]? = some x := ⟨_, List.getElem?_eq_getElem (by rw [HWL.out]; exact hlt4)⟩
                          obtain ⟨T, hT⟩ := hs.get hx
                          obtain ⟨kt, hkt⟩ := hs.th hx hT
                          obtain ⟨v7, a7, cp7, ho7, _, hD7, j7, hj7⟩ := (hs.ths k4 x T hx hT).over (HF.out.2.2 k4 T hT)
                          obtain ⟨x7, hx7, hF7⟩ := hD7
                          have hv7 : v7 = [bit false] := by
                            have := hF7.1
                            rw [decide_eq_false (by omega)] at this
                            exact this
                          subst hv7
                          have CY := yes_h hs.heap kt ((wdL c (hsW j keep ep3 x8) ++ ([rowP 29 1 (.slice a j cp) j (intC (tolds j)), blkP rb 78 #[.slice a j cp, .slice (some ⟨g8, 0, none⟩) j j, .int .i64 (keep : Int), .int .i64 1, .int .i64 201, .int .i64 99]] ++ allG c ws Ts8)).length + j7) hkt false (a := a7) (cp := cp7) (by
                            rw [List.getElem?_append_right (by omega), Nat.add_sub_cancel_left]; exact hj7) (HF.out.2.2 k4 T hT) ho7
                          have CY := Lib.hid CY
                          obtain ⟨a2, ea2, hc2, hat2⟩ := (hs.row (j := 0) (t := 38) (sz := 1) (n := kk) (v := .slice la kk lc) (us := ptrs ws) rfl).rdv.at (by omega)
                          have ea2 : la = some a2 := by simpa using ea2
                          have y2 := hat2 k4 _ (ptrs_get hx)
                          subst ea2
                          have HHS := Lib.hid hs
                          clear hs hat2 hc2 hx hT HS hkt ho7 hj7 hF7 hx7
                          go_wp2_with fail
                          refine CY.out.mono ?_
                          rintro e w11 ⟨rfl, a3, cp3, H3⟩
                          have HQ := Lib.hid (HHS.out.more (by rw [List.append_assoc] at H3; exact H3) (Nat.le_refl _))
                          clear CY H3 y2 HHS
                          go_wp2_with fail
                          exact ⟨⟨k4 + 1, by go_num, by omega, Lib.hid ⟨_, by have := HQ.out; rw [List.append_assoc] at this; exact this⟩⟩, by simp [intOf]; omega⟩
                        · have H0 : Heap w wr (wdL c (hsW j keep ep3 x8) ++ [rowP 29 1 (.slice a j cp) j (intC (tolds j)), blkP rb 78 #[.slice a j cp, .slice (some ⟨g8, 0, none⟩) j j, .int .i64 (keep : Int), .int .i64 1, .int .i64 201, .int .i64 99]]) := by
                            have := hs.heap.first
                            rw [← List.append_assoc] at this
                            exact this.first
                          have HH := Lib.hid H0
                          have okA := Lib.hid (hs.ok.ar.ok (by omega))
                          clear H0 hs HS
                          rename World => w12
                          go_wp2_with fail
                          clear hlt4 hk4'
                          go_loopw [161] (fun i wr => ∃ k5 : Nat, i = .int .i64 (k5 : Nat) ∧ k5 ≤ j ∧ Hid (Heap w wr (wdL c (hsW j keep ep3 x8) ++ [rowP 29 1 (.slice a j cp) j (intC (tolds j)), blkP rb 78 #[.slice a j cp, .slice (some ⟨g8, 0, none⟩) j j, .int .i64 (keep : Int), .int .i64 1, .int .i64 201, .int .i64 99]]))) (fun i _ => j - (intOf i).toNat)
                          case atStart => exact ⟨0, rfl, Nat.zero_le _, HH⟩
                          case round =>
                            clear HH
                            obtain ⟨k5, rfl, hk5, HH⟩ := hrel
                            by_cases hlt5 : k5 < j
                            · obtain ⟨v0, v1, v2, v3, v4, v5⟩ := wdL_cells HH.out
                              obtain ⟨g9, ee, hcc, hat⟩ := (HH.out.row 4 (t := 29) (sz := 1) (n := j) (v := .slice a j cp) (us := intC (tolds j)) rfl).rdv.at (by omega)
                              have ee : a = some g9 := by simpa using ee
                              subst ee
                              have y1 := hat k5 _ (tolds_get hlt5)
                              obtain ⟨y, hy⟩ := my_get HF.out.2.1 hlt5
                              have hxl : x8.L.length ≤ 1000 := by rw [HF.out.2.1.len]; omega
                              have CM := Mark_q HH.out 1 rfl okA.out (told k5) (arAt_nk (l := x8.L) (by rw [HF.out.2.1.len]; exact hlt5) hxl)
                              rw [show (markAr (told k5) (hsW j keep ep3 x8).ar).1 = y.mrk from by show (markAr (told k5) (nkS x8.L)).1 = _; rw [nk_mark hy hxl]] at CM
                              have hmr : y.mrk = false := ((HF.out.2.1.bad hq).2.2 k5 y hy).1
                              rw [hmr] at CM
                              have CM := Lib.hid CM
                              clear hat hcc hmr hy
                              go_wp2_with fail
                              refine CM.out.mono ?_
                              rintro e w' ⟨rfl, hw⟩
                              have hw := hw.symm
                              subst hw
                              clear CM
                              go_wp2_with fail
                              exact ⟨⟨k5 + 1, by go_num, by omega, HH⟩, by simp [intOf]; omega⟩
                            · obtain ⟨v0, v1, v2, v3, v4, v5⟩ := wdL_cells HH.out
                              obtain ⟨g9, ee, hcc, hat⟩ := (HH.out.row 4 (t := 29) (sz := 1) (n := j) (v := .slice a j cp) (us := intC (tolds j)) rfl).rdv.at (by omega)
                              have ee : a = some g9 := by simpa using ee
                              subst ee
                              have y1 : World.cell? _ g9 = some (.int .i64 (told 0)) := hat 0 _ (tolds_get (by omega))
                              obtain ⟨y, hy⟩ := my_get HF.out.2.1 (i := 0) (by omega)
                              have hxl : x8.L.length ≤ 1000 := by rw [HF.out.2.1.len]; omega
                              have hat0 : arAt (hsW j keep ep3 x8).ar (told 0) = some 2 := arAt_nk (l := x8.L) (by rw [HF.out.2.1.len]; omega) hxl
                              have hw1 : (wayAr (told 0) 1 (hsW j keep ep3 x8).ar).1 = 201 := by
                                show (wayAr (told 0) 1 (nkS x8.L)).1 = _
                                rw [(nk_way hy hxl).2]
                                exact ((HF.out.2.1.bad hq).2.2 0 y hy).2 rfl
                              have hw0 : (wayAr (told 0) 0 (hsW j keep ep3 x8).ar).1 = 200 := by
                                show (wayAr (told 0) 0 (nkS x8.L)).1 = _
                                rw [(nk_way hy hxl).1]
                                exact (HF.out.2.1.way y hy).1
                              have hst8 : stateRt 1 (hsW j keep ep3 x8).rt = 0 := by
                                show x8.st = _
                                exact HF.out.1.2.1 hq
                              have hal8 : allRt 1 (hsW j keep ep3 x8).rt = false := by
                                show x8.al = _
                                exact (HF.out.2.1.bad hq).1
                              have CWy := Lib.hid (show ∀ (z : World) (i : Int), i = 0 ∨ i = 1 → Heap w z (wdL c (hsW j keep ep3 x8) ++ [rowP 29 1 (.slice (some g9) j cp) j (intC (tolds j)), blkP rb 78 #[.slice (some g9) j cp, .slice (some ⟨g8, 0, none⟩) j j, .int .i64 (keep : Int), .int .i64 1, .int .i64 201, .int .i64 99]]) → Calls Try.prog 47 #[.pointer (some ⟨c.ab, 0, none⟩), .int .i64 (told 0), .int .i64 i] z (fun e w' => e = .returned (.int .i64 (if i = 1 then 201 else 200)) ∧ w' = z) from fun z i hi hz => by
                                rcases hi with rfl | rfl
                                · have C := Way_q hz 1 rfl okA.out (told 0) 0 hat0
                                  rw [hw0] at C
                                  exact C
                                · have C := Way_q hz 1 rfl okA.out (told 0) 1 hat0
                                  rw [hw1] at C
                                  exact C)
                              have HE := Lib.hid (And.intro hat0 (And.intro hw1 (And.intro hw0 (And.intro hst8 hal8))))
                              clear hat hcc hy hxl hat0 hw1 hw0 hst8 hal8
                              rename World => w13
                              go_wp2_with fail
                              go_quiet ((first
                                | (go_at_call 47; exact Calls.quiet_of_same (CWy.out _ _ (by first | exact Or.inl rfl | exact Or.inr rfl) (HH.out.drewN _)))
                                | (go_at_call 56; exact Calls.quiet_of_same ((State_h (HH.out.drewN _) 2 rfl 1).mono (R' := fun e w' => e = .returned (.int .u8 0) ∧ w' = _) (fun e w' h => ⟨by have := h.1; rw [HE.out.2.2.2.1] at this; exact this, h.2⟩)))
                                | (go_at_call 61; exact Calls.quiet_of_same ((All_h (HH.out.drewN _) 2 rfl 1).mono (R' := fun e w' => e = .returned (.bool false) ∧ w' = _) (fun e w' h => ⟨by have := h.1; rw [HE.out.2.2.2.2] at this; exact this, h.2⟩)))))
                              go_wp2_with fail
                              go_ret
                              exact ⟨rfl, (HH.out.drewN _).below⟩
                    · have hsa2 : sa = false := by rw [HQK.out, decide_eq_false (by omega)]
                      subst hsa2
                      rename World => w10
                      go_wp2_with fail
                      go_loopw [149] (fun i wr => ∃ k4 : Nat, i = .int .i64 (k4 : Nat) ∧ k4 ≤ kk ∧ Hid (∃ Y, Squad (myG j keep q (stI stale) ep3 x8.st) c w ws [rowP 29 1 (.slice a j cp) j (intC (tolds j)), blkP rb 78 #[.slice a j cp, .slice (some ⟨g8, 0, none⟩) j j, .int .i64 (keep : Int), .int .i64 1, .int .i64 201, .int .i64 99]] wr N8 (hsW j keep ep3 x8) Ts8 ([rowP 38 1 (.slice la kk lc) kk (ptrs ws)] ++ Y))) (fun i _ => kk - (intOf i).toNat)
                      case atStart => exact ⟨0, rfl, Nat.zero_le _, HS⟩
                      case round =>
                        clear HS
                        obtain ⟨k4, rfl, hk4', HS⟩ := hrel
                        obtain ⟨Y, hs⟩ := HS.out
                        by_cases hlt4 : k4 < kk
                        · obtain ⟨x, hx⟩ : ∃ x, ws[k4]? = some x := ⟨_, List.getElem?_eq_getElem (by rw [HWL.out]; exact hlt4)⟩
                          obtain ⟨T, hT⟩ := hs.get hx
                          obtain ⟨kt, hkt⟩ := hs.th hx hT
                          obtain ⟨v7, a7, cp7, ho7, _, hD7, j7, hj7⟩ := (hs.ths k4 x T hx hT).over (HF.out.2.2 k4 T hT)
                          obtain ⟨x7, hx7, hF7⟩ := hD7
                          have hv7 : v7 = [bit true] := by
                            have := hF7.1
                            rw [decide_eq_true hq] at this
                            exact this
                          subst hv7
                          have CY := yes_h hs.heap kt ((wdL c (hsW j keep ep3 x8) ++ ([rowP 29 1 (.slice a j cp) j (intC (tolds j)), blkP rb 78 #[.slice a j cp, .slice (some ⟨g8, 0, none⟩) j j, .int .i64 (keep : Int), .int .i64 1, .int .i64 201, .int .i64 99]] ++ allG c ws Ts8)).length + j7) hkt true (a := a7) (cp := cp7) (by
                            rw [List.getElem?_append_right (by omega), Nat.add_sub_cancel_left]; exact hj7) (HF.out.2.2 k4 T hT) ho7
                          have CY := Lib.hid CY
                          obtain ⟨a2, ea2, hc2, hat2⟩ := (hs.row (j := 0) (t := 38) (sz := 1) (n := kk) (v := .slice la kk lc) (us := ptrs ws) rfl).rdv.at (by omega)
                          have ea2 : la = some a2 := by simpa using ea2
                          have y2 := hat2 k4 _ (ptrs_get hx)
                          subst ea2
                          have HHS := Lib.hid hs
                          clear hs hat2 hc2 hx hT HS hkt ho7 hj7 hF7 hx7
                          go_wp2_with fail
                          refine CY.out.mono ?_
                          rintro e w11 ⟨rfl, a3, cp3, H3⟩
                          have HQ := Lib.hid (HHS.out.more (by rw [List.append_assoc] at H3; exact H3) (Nat.le_refl _))
                          clear CY H3 y2 HHS
                          go_wp2_with fail
                          exact ⟨⟨k4 + 1, by go_num, by omega, Lib.hid ⟨_, by have := HQ.out; rw [List.append_assoc] at this; exact this⟩⟩, by simp [intOf]; omega⟩
                        · have H0 : Heap w wr (wdL c (hsW j keep ep3 x8) ++ [rowP 29 1 (.slice a j cp) j (intC (tolds j)), blkP rb 78 #[.slice a j cp, .slice (some ⟨g8, 0, none⟩) j j, .int .i64 (keep : Int), .int .i64 1, .int .i64 201, .int .i64 99]]) := by
                            have := hs.heap.first
                            rw [← List.append_assoc] at this
                            exact this.first
                          have HH := Lib.hid H0
                          have okA := Lib.hid (hs.ok.ar.ok (by omega))
                          clear H0 hs HS
                          rename World => w12
                          go_wp2_with fail
                          clear hlt4 hk4'
                          go_loopw [161] (fun i wr => ∃ k5 : Nat, i = .int .i64 (k5 : Nat) ∧ k5 ≤ j ∧ Hid (Heap w wr (wdL c (hsW j keep ep3 x8) ++ [rowP 29 1 (.slice a j cp) j (intC (tolds j)), blkP rb 78 #[.slice a j cp, .slice (some ⟨g8, 0, none⟩) j j, .int .i64 (keep : Int), .int .i64 1, .int .i64 201, .int .i64 99]]))) (fun i _ => j - (intOf i).toNat)
                          case atStart => exact ⟨0, rfl, Nat.zero_le _, HH⟩
                          case round =>
                            clear HH
                            obtain ⟨k5, rfl, hk5, HH⟩ := hrel
                            by_cases hlt5 : k5 < j
                            · obtain ⟨v0, v1, v2, v3, v4, v5⟩ := wdL_cells HH.out
                              obtain ⟨g9, ee, hcc, hat⟩ := (HH.out.row 4 (t := 29) (sz := 1) (n := j) (v := .slice a j cp) (us := intC (tolds j)) rfl).rdv.at (by omega)
                              have ee : a = some g9 := by simpa using ee
                              subst ee
                              have y1 := hat k5 _ (tolds_get hlt5)
                              obtain ⟨y, hy⟩ := my_get HF.out.2.1 hlt5
                              have hxl : x8.L.length ≤ 1000 := by rw [HF.out.2.1.len]; omega
                              have CM := Mark_q HH.out 1 rfl okA.out (told k5) (arAt_nk (l := x8.L) (by rw [HF.out.2.1.len]; exact hlt5) hxl)
                              rw [show (markAr (told k5) (hsW j keep ep3 x8).ar).1 = y.mrk from by show (markAr (told k5) (nkS x8.L)).1 = _; rw [nk_mark hy hxl]] at CM
                              have BR := HH.out.blk 5 (b := rb) (t := 78) (c := #[.slice (some g9) j cp, .slice (some ⟨g8, 0, none⟩) j j, .int .i64 (keep : Int), .int .i64 1, .int .i64 201, .int .i64 99]) rfl
                              have y3 : World.cell? _ ⟨rb, 2, none⟩ = some (.int .i64 (keep : Int)) := BR.cell 2
                              by_cases hkk5 : keep ≤ k5
                              · have hmr : y.mrk = true := (HF.out.1.2.2 hq).2.2.2.1 k5 y hy (by omega) (by omega)
                                rw [hmr] at CM
                                have CM := Lib.hid CM
                                clear hat hcc hmr hy BR
                                go_wp2_with fail
                                refine CM.out.mono ?_
                                rintro e w' ⟨rfl, hw⟩
                                have hw := hw.symm
                                subst hw
                                clear CM
                                go_wp2_with fail
                                exact ⟨⟨k5 + 1, by go_num, by omega, HH⟩, by simp [intOf]; omega⟩
                              · have hmr : y.mrk = false := by
                                  cases hm : y.mrk with
                                  | false => rfl
                                  | true => have := HF.out.2.1.mrk k5 y hy hm; omega
                                rw [hmr] at CM
                                have CM := Lib.hid CM
                                clear hat hcc hmr hy BR
                                go_wp2_with fail
                                refine CM.out.mono ?_
                                rintro e w' ⟨rfl, hw⟩
                                have hw := hw.symm
                                subst hw
                                clear CM
                                go_wp2_with fail
                                exact ⟨⟨k5 + 1, by go_num, by omega, HH⟩, by simp [intOf]; omega⟩
                            · obtain ⟨v0, v1, v2, v3, v4, v5⟩ := wdL_cells HH.out
                              obtain ⟨g9, ee, hcc, hat⟩ := (HH.out.row 4 (t := 29) (sz := 1) (n := j) (v := .slice a j cp) (us := intC (tolds j)) rfl).rdv.at (by omega)
                              have ee : a = some g9 := by simpa using ee
                              subst ee
                              have y1 : World.cell? _ g9 = some (.int .i64 (told 0)) := hat 0 _ (tolds_get (by omega))
                              obtain ⟨y, hy⟩ := my_get HF.out.2.1 (i := 0) (by omega)
                              have hxl : x8.L.length ≤ 1000 := by rw [HF.out.2.1.len]; omega
                              have hat0 : arAt (hsW j keep ep3 x8).ar (told 0) = some 2 := arAt_nk (l := x8.L) (by rw [HF.out.2.1.len]; omega) hxl
                              have hw1 : (wayAr (told 0) 1 (hsW j keep ep3 x8).ar).1 = 99 := by
                                show (wayAr (told 0) 1 (nkS x8.L)).1 = _
                                rw [(nk_way hy hxl).2]
                                exact (HF.out.1.2.2 hq).2.2.2.2 y hy
                              have hw0 : (wayAr (told 0) 0 (hsW j keep ep3 x8).ar).1 = 200 := by
                                show (wayAr (told 0) 0 (nkS x8.L)).1 = _
                                rw [(nk_way hy hxl).1]
                                exact (HF.out.2.1.way y hy).1
                              have hst8 : stateRt 1 (hsW j keep ep3 x8).rt = 2 := by
                                show x8.st = _
                                exact (HF.out.1.2.2 hq).1
                              have hal8 : allRt 1 (hsW j keep ep3 x8).rt = true := by
                                show x8.al = _
                                exact (HF.out.1.2.2 hq).2.2.1
                              have CWy := Lib.hid (show ∀ (z : World) (i : Int), i = 0 ∨ i = 1 → Heap w z (wdL c (hsW j keep ep3 x8) ++ [rowP 29 1 (.slice (some g9) j cp) j (intC (tolds j)), blkP rb 78 #[.slice (some g9) j cp, .slice (some ⟨g8, 0, none⟩) j j, .int .i64 (keep : Int), .int .i64 1, .int .i64 201, .int .i64 99]]) → Calls Try.prog 47 #[.pointer (some ⟨c.ab, 0, none⟩), .int .i64 (told 0), .int .i64 i] z (fun e w' => e = .returned (.int .i64 (if i = 1 then 99 else 200)) ∧ w' = z) from fun z i hi hz => by
                                rcases hi with rfl | rfl
                                · have C := Way_q hz 1 rfl okA.out (told 0) 0 hat0
                                  rw [hw0] at C
                                  exact C
                                · have C := Way_q hz 1 rfl okA.out (told 0) 1 hat0
                                  rw [hw1] at C
                                  exact C)
                              have HE := Lib.hid (And.intro hat0 (And.intro hw1 (And.intro hw0 (And.intro hst8 hal8))))
                              clear hat hcc hy hxl hat0 hw1 hw0 hst8 hal8
                              rename World => w13
                              go_wp2_with fail
                              go_quiet ((first
                                | (go_at_call 47; exact Calls.quiet_of_same (CWy.out _ _ (by first | exact Or.inl rfl | exact Or.inr rfl) (HH.out.drewN _)))
                                | (go_at_call 56; exact Calls.quiet_of_same ((State_h (HH.out.drewN _) 2 rfl 1).mono (R' := fun e w' => e = .returned (.int .u8 2) ∧ w' = _) (fun e w' h => ⟨by have := h.1; rw [HE.out.2.2.2.1] at this; exact this, h.2⟩)))
                                | (go_at_call 61; exact Calls.quiet_of_same ((All_h (HH.out.drewN _) 2 rfl 1).mono (R' := fun e w' => e = .returned (.bool true) ∧ w' = _) (fun e w' h => ⟨by have := h.1; rw [HE.out.2.2.2.2] at this; exact this, h.2⟩)))))
                              go_wp2_with fail
                              go_ret
                              exact ⟨rfl, (HH.out.drewN _).below⟩
end Go.Proofs.Ythkohomogknddaa
