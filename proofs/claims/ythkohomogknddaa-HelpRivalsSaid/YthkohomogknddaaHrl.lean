/- rival: a record of some of five nodes, made. No condition but that there is room for a record. -/
import Derived.Test.YthkohomogknddaaHre
import Derived.Test.YthkohomogknddaaHst
import Derived.Test.YthkohomogknddaaWHn
import Derived.Deep.DeepCutAuto
import Derived.Deep.CutRange
namespace Go.Proofs.Ythkohomogknddaa
open Go Go.RowKit
set_option linter.unusedVariables false
set_option linter.unusedSimpArgs false
set_option maxRecDepth 100000
def bitB (set : Int) (j : Nat) : Bool := decide (bits BinOp.and IntKind.u8 (set / 2 ^ j) 1 = 1)
def psU (set : Int) (j : Nat) : List Nat := (List.range j).filter (bitB set)
theorem psU_yes {set : Int} {j : Nat} (h : bitB set j = true) : psU set (j + 1) = psU set j ++ [j] := by simp [psU, List.range_succ, h]
theorem psU_no {set : Int} {j : Nat} (h : ¬ bitB set j = true) : psU set (j + 1) = psU set j := by simp [psU, List.range_succ, h]
theorem psU_len (set : Int) (j : Nat) : (psU set j).length ≤ j := by
  have := List.length_filter_le (bitB set) (List.range j)
  rwa [List.length_range] at this
theorem Heap.tailP {w0 w : World} {p : Piece} {l : List Piece} (h : Heap w0 w (p :: l)) : Heap w0 w l := Heap.mid (l := []) (m := [p]) (r := l) h
theorem Heap.swapF {w0 w : World} {B C : List Piece} (h : Heap w0 w (B ++ C)) : Heap w0 w (C ++ B) := Heap.swapEnd (A := []) (B := B) (C := C) h
theorem Heap.allocF {w0 w : World} {l : List Piece} (h : Heap w0 w l) (t : TypeId) (c : Array Value) : Heap w0 (w.alloc (.cells c t)) (blkP w.heap.size t c :: l) := Heap.swapF (h.alloc t c)
/-- What stands there behind j of the nodes. -/
def RvL (w0 wx : World) (c : Wc) (s : Wd) (Z : List Piece) (a : Option Addr) (cp : Nat) (set nw : Int) (rb b8 j : Nat) : Prop :=
  ∃ (n : Nat) (a1 : Option Addr) (c1 : Nat) (a2 : Option Addr) (c2 : Nat) (old : Int), (psU set j).length = n ∧ (n = 0 → old = 0) ∧ (0 < n → old = 200 + 10 * (((psU set j).headD 0 : Nat) : Int)) ∧
    Heap w0 wx ([rowP 29 1 (.slice a1 n c1) n (intC ((psU set j).map told)), rowP 2 1 (.slice a2 n c2) n (intC (List.replicate n 0)), blkP rb 78 #[.slice a1 n c1, .slice a2 n c2, .int .i64 1, .int .i64 0, .int .i64 old, .int .i64 nw], blkP b8 78 #[.slice none 0 0, .slice none 0 0, .int .i64 0, .int .i64 0, .int .i64 0, .int .i64 0]] ++ (wdL c s ++ (rowP 29 1 (.slice a 5 cp) 5 (intC (tolds 5)) :: Z)))
theorem rvl_skip {w0 wx : World} {c : Wc} {s : Wd} {Z : List Piece} {a : Option Addr} {cp : Nat} {set nw : Int} {rb b8 j : Nat} (hb : ¬ bitB set j = true) (h : RvL w0 wx c s Z a cp set nw rb b8 j) : RvL w0 wx c s Z a cp set nw rb b8 (j + 1) := by
  unfold RvL at h ⊢
  rw [psU_no hb]
  exact h
theorem rvl_next {w0 wx : World} {c : Wc} {s : Wd} {Z : List Piece} {a : Option Addr} {cp : Nat} {set nw : Int} {rb b8 j n : Nat} {a3 : Option Addr} {c3 : Nat} {a4 : Option Addr} {c4 : Nat} {old : Int} (hb : bitB set j = true) (hj : True) (ho : old = 200 + 10 * (((psU set j ++ [j]).headD 0 : Nat) : Int)) (hn : (psU set j).length = n)
    (h : Heap w0 wx ([rowP 29 1 (.slice a3 (n + 1) c3) (n + 1) (intC ((psU set j).map told) ++ [.int .i64 (told j)]), rowP 2 1 (.slice a4 (n + 1) c4) (n + 1) (intC (List.replicate n 0) ++ [.int .i64 0]), blkP rb 78 #[.slice a3 (n + 1) c3, .slice a4 (n + 1) c4, .int .i64 1, .int .i64 0, .int .i64 old, .int .i64 nw], blkP b8 78 #[.slice none 0 0, .slice none 0 0, .int .i64 0, .int .i64 0, .int .i64 0, .int .i64 0]] ++ (wdL c s ++ (rowP 29 1 (.slice a 5 cp) 5 (intC (tolds 5)) :: Z)))) : Hid (RvL w0 wx c s Z a cp set nw rb b8 (j + 1)) := by
  refine Lib.hid ⟨n + 1, a3, c3, a4, c4, old, ?_, fun h => by omega, fun _ => ?_, ?_⟩
  · rw [psU_yes hb]; simp [hn]
  · rw [psU_yes hb]; exact ho
  · rw [psU_yes hb]
    have e1 : intC ((psU set j ++ [j]).map told) = intC ((psU set j).map told) ++ [.int .i64 (told j)] := by simp [intC]
    have e2 : intC (List.replicate (n + 1) 0) = intC (List.replicate n 0) ++ [.int .i64 0] := by simp [intC, List.replicate_succ']
    rw [e1, e2]
    exact h
def rvSet (set nw : Int) : Rv := ⟨psU set 5, nw⟩
set_option maxHeartbeats 200000000 in
theorem rival_h {w0 w : World} {c : Wc} {s : Wd} {Z : List Piece} {a : Option Addr} {cp : Nat} (h : Heap w0 w (wdL c s ++ (rowP 29 1 (.slice a 5 cp) 5 (intC (tolds 5)) :: Z))) (set nw : Int) (hs : 0 ≤ set ∧ set ≤ 255) (hroom : (s.rt.es.length : Int) < s.rt.most) (hne : psU set 5 ≠ []) :
    Calls Try.prog 53 #[.pointer (some ⟨c.wb, 0, none⟩), .slice a 5 cp, .int .u8 set, .int .i64 nw] w fun e w' => ∃ (a1 : Option Addr) (c1 : Nat) (a2 : Option Addr) (c2 : Nat), 
      e = .returned (.tuple #[.agg #[.slice a1 (psU set 5).length c1, .slice a2 (psU set 5).length c2, .int .i64 1, .int .i64 0, .int .i64 (200 + 10 * ((rvSet set nw).hd : Int)), .int .i64 nw], .int .i64 ((s.rt.es.length : Int) + 1)]) ∧
      Heap w0 w' (wdL c { s with rt := ⟨s.rt.es ++ [rvE (rvSet set nw) 1 false], s.rt.most⟩ } ++ (rowP 29 1 (.slice a 5 cp) 5 (intC (tolds 5)) :: Z) ++ [rowP 29 1 (.slice a1 (psU set 5).length c1) (psU set 5).length (intC ((psU set 5).map told)), rowP 2 1 (.slice a2 (psU set 5).length c2) (psU set 5).length (intC (List.replicate (psU set 5).length 0))]) := by
  obtain ⟨s0, s1⟩ := hs
  obtain ⟨i0, hi0, hz0, hz1, hz2⟩ := info_parts info_ref
  have I0 := Lib.hid (And.intro hi0 (And.intro hz0 (And.intro hz1 hz2)))
  obtain ⟨j0, hj0, jz0, jz1, jz2⟩ := info_parts info_i64
  have J0 := Lib.hid (And.intro hj0 (And.intro jz0 (And.intro jz1 jz2)))
  have HR := Lib.hid (And.intro hroom hne)
  clear hi0 hz0 hz1 hz2 hj0 jz0 jz1 jz2 hroom hne
  obtain ⟨b8, hb8⟩ : ∃ b, w.heap.size = b := ⟨_, rfl⟩
  have H1 := ((h.allocF 78 #[.slice none 0 0, .slice none 0 0, .int .i64 0, .int .i64 0, .int .i64 0, .int .i64 0]).allocF 78 #[.slice none 0 0, .slice none 0 0, .int .i64 1, .int .i64 0, .int .i64 0, .int .i64 nw])
  rw [show (w.alloc (.cells #[.slice none 0 0, .slice none 0 0, .int .i64 0, .int .i64 0, .int .i64 0, .int .i64 0] 78)).heap.size = w.heap.size + 1 from by simp] at H1
  have H2 : Hid (RvL w0 ((w.alloc (.cells #[.slice none 0 0, .slice none 0 0, .int .i64 0, .int .i64 0, .int .i64 0, .int .i64 0] 78)).alloc (.cells #[.slice none 0 0, .slice none 0 0, .int .i64 1, .int .i64 0, .int .i64 0, .int .i64 nw] 78)) c s Z a cp set nw (w.heap.size + 1) w.heap.size 0) :=
    Lib.hid ⟨0, none, 0, none, 0, 0, rfl, fun _ => rfl, fun h => by omega, ((H1.rowNil 2 1).swapF.rowNil 29 1).swapF⟩
  clear H1 h hb8 b8
  go_enter Try.func53, Try.ntmps53
  go_wp2_with fail
  go_loopw [19] (fun i wr => ∃ j : Nat, i = .int .i64 (j : Nat) ∧ j ≤ 5 ∧ Hid (RvL w0 wr c s Z a cp set nw (w.heap.size + 1) w.heap.size j)) (fun i _ => 5 - (intOf i).toNat)
  case atStart => exact ⟨0, rfl, Nat.zero_le _, H2⟩
  case round =>
    clear H2
    obtain ⟨j, rfl, hj, HL0⟩ := hrel
    generalize w.heap.size + 1 = rb at *
    generalize w.heap.size = b8 at *
    by_cases hlt : j < 5
    · by_cases hb : bitB set j = true
      · have HB := Lib.hid hb
        have hb1 : bits BinOp.and IntKind.u8 (set / 2 ^ j) 1 = 1 := of_decide_eq_true hb
        clear hb
        obtain ⟨n, a1, c1, a2, c2, old, hn, ho1, ho2, H0⟩ := HL0.out
        clear HL0
        obtain ⟨g9, ee, hcc, hat⟩ := (H0.row 8 (t := 29) (sz := 1) (n := 5) (v := .slice a 5 cp) (us := intC (tolds 5)) rfl).rdv.at (by omega)
        have ee : a = some g9 := by simpa using ee
        subst ee
        have y1 := hat j _ (tolds_get hlt)
        have hn5 : n ≤ j := by rw [← hn]; exact psU_len set j
        have hlm : n + 1 ≤ maxLen := by unfold maxLen; omega
        have hlb : (n + 1) * 8 ≤ 140737488355328 := by omega
        have HL := Lib.hid (And.intro hlm hlb)
        clear hlm hlb hat hcc
        by_cases hn0 : n = 0
        · have BR := H0.blk 2 (b := rb) (t := 78) (c := #[.slice a1 n c1, .slice a2 n c2, .int .i64 1, .int .i64 0, .int .i64 old, .int .i64 nw]) rfl
          have e0 := BR.cell 0
          have e4 := BR.cell 4
          have f4 := BR.froz 4
          clear BR
          have hz : ((n : Int) == 0) = true := by rw [hn0]; rfl
          have H1 := Lib.hid (H0.setCell 2 rfl 4 (.int .i64 (200 + 10 * (j : Int))))
          have HN0 := Lib.hid (And.intro hn (And.intro hn5 hn0))
          have HO := Lib.hid (And.intro ho1 ho2)
          clear H0 hn hn5 hn0 ho1 ho2
          go_upto_region 8 with fail
          clear hz e0 e4 f4 y1 hb1
          generalize wr.setCell ⟨rb, 4, none⟩ (.int .i64 (200 + 10 * (j : Int))) = z1 at *
          have ho1 : (200 + 10 * (j : Int)) = 200 + 10 * (((psU set j ++ [j]).headD 0 : Nat) : Int) := by
            have : psU set j = [] := List.eq_nil_of_length_eq_zero (by have h1 := HN0.out.1; have h2 := HN0.out.2.2; omega)
            rw [this]; rfl
          have HP := Lib.hid ho1
          clear ho1 HO
          have HZ : Hid (Heap w0 z1.drew ([rowP 29 1 (.slice a1 n c1) n (intC ((psU set j).map told)), rowP 2 1 (.slice a2 n c2) n (intC (List.replicate n 0)), blkP rb 78 #[.slice a1 n c1, .slice a2 n c2, .int .i64 1, .int .i64 0, .int .i64 (200 + 10 * (j : Int)), .int .i64 nw], blkP b8 78 #[.slice none 0 0, .slice none 0 0, .int .i64 0, .int .i64 0, .int .i64 0, .int .i64 0]] ++ (wdL c s ++ (rowP 29 1 (.slice (some g9) 5 cp) 5 (intC (tolds 5)) :: Z)))) := Lib.hid H1.out.drew
          clear H1
          have q0 : World.cell? z1.drew ⟨rb, 0, none⟩ = some (.slice a1 n c1) ∧ World.cell? z1.drew ⟨rb, 1, none⟩ = some (.slice a2 n c2) := ⟨(HZ.out.blk 2 (b := rb) (t := 78) (c := #[.slice a1 n c1, .slice a2 n c2, .int .i64 1, .int .i64 0, .int .i64 (200 + 10 * (j : Int)), .int .i64 nw]) rfl).cell 0, (HZ.out.blk 2 (b := rb) (t := 78) (c := #[.slice a1 n c1, .slice a2 n c2, .int .i64 1, .int .i64 0, .int .i64 (200 + 10 * (j : Int)), .int .i64 nw]) rfl).cell 1⟩
          refine wp_region_noPanic ?_
          refine AnyK.start (ks := [10, 11, 12]) (S := fun w' => w'.cell? ⟨rb, 0, none⟩ = some (.slice a1 n c1) ∧ w'.cell? ⟨rb, 1, none⟩ = some (.slice a2 n c2)) (by kernel_rfl) (by exact q0) (fun _ => ?_)
          refine AnyK.takeB (i := 0) (v := ?_) rfl (by kernel_rfl) (by kernel_rfl) (by kernel_rfl) (by kernel_rfl) (fun _ _ _ h => h) (Or.inl ⟨by rfl, ?_⟩) (by exact q0) ?_
          rotate_left
          focus
            intro w9 hSw
            try dsimp only at hSw
            go_simp
            try with_reducible rfl
          try simp only [Act.put, List.setIfInBounds_toArray, List.set_cons_zero, List.set_cons_succ]
          refine AnyK.takeB (i := 1) (v := ?_) rfl (by kernel_rfl) (by kernel_rfl) (by kernel_rfl) (by kernel_rfl) (fun _ _ _ h => h) (Or.inl ⟨by rfl, ?_⟩) (by exact q0) ?_
          rotate_left
          focus
            intro w9 hSw
            try dsimp only at hSw
            go_simp
            try with_reducible rfl
          try simp only [Act.put, List.setIfInBounds_toArray, List.set_cons_zero, List.set_cons_succ]
          refine AnyK.takeB (i := 2) (v := ?_) rfl (by kernel_rfl) (by kernel_rfl) (by kernel_rfl) (by kernel_rfl) (fun _ _ _ h => h) (Or.inl ⟨by rfl, ?_⟩) (by exact q0) ?_
          rotate_left
          focus
            intro w9 hSw
            try dsimp only at hSw
            go_simp
            try with_reducible rfl
          try simp only [Act.put, List.setIfInBounds_toArray, List.set_cons_zero, List.set_cons_succ]
          refine AnyK.takeB (i := 5) (v := ?_) rfl (by kernel_rfl) (by kernel_rfl) (by kernel_rfl) (by kernel_rfl) (fun _ _ _ h => h) (Or.inl ⟨by rfl, ?_⟩) (by exact q0) ?_
          rotate_left
          focus
            intro w9 hSw
            try dsimp only at hSw
            go_simp
            try with_reducible rfl
          try simp only [Act.put, List.setIfInBounds_toArray, List.set_cons_zero, List.set_cons_succ]
          refine AnyK.takeB (i := 6) (v := ?_) rfl (by kernel_rfl) (by kernel_rfl) (by kernel_rfl) (by kernel_rfl) (fun _ _ _ h => h) (Or.inl ⟨by rfl, ?_⟩) (by exact q0) ?_
          rotate_left
          focus
            intro w9 hSw
            try dsimp only at hSw
            go_simp
            try with_reducible rfl
          try simp only [Act.put, List.setIfInBounds_toArray, List.set_cons_zero, List.set_cons_succ]
          clear q0
          generalize z1.drew = z0 at HZ ⊢
          refine AnyK.two (i := 3) (j := 7) (by kernel_rfl) rfl rfl (fun K9 hK9 => ?_) (fun K9 hK9 => ?_)
          · go_simp
            have H9 := HZ.out.allocF 29 #[.int .i64 (told j)]
            generalize hb : z0.heap.size = b3 at *
            generalize hx : z0.alloc (.cells #[.int .i64 (told j)] 29) = x3 at *
            clear hb hx
            have H9 : Heap w0 x3 ([blkP b3 29 #[.int .i64 (told j)], rowP 29 1 (.slice a1 n c1) n (intC ((psU set j).map told)), rowP 2 1 (.slice a2 n c2) n (intC (List.replicate n 0)), blkP rb 78 #[.slice a1 n c1, .slice a2 n c2, .int .i64 1, .int .i64 0, .int .i64 (200 + 10 * (j : Int)), .int .i64 nw], blkP b8 78 #[.slice none 0 0, .slice none 0 0, .int .i64 0, .int .i64 0, .int .i64 0, .int .i64 0]] ++ (wdL c s ++ (rowP 29 1 (.slice (some g9) 5 cp) 5 (intC (tolds 5)) :: Z))) := H9
            have HH1 := Lib.hid H9
            clear H9 HZ
            have BW := HH1.out.blk 3 (b := rb) (t := 78) (c := #[.slice a1 n c1, .slice a2 n c2, .int .i64 1, .int .i64 0, .int .i64 (200 + 10 * (j : Int)), .int .i64 nw]) rfl
            have qs := And.intro (BW.cell 0) (BW.cell 1)
            clear BW
            refine hK9.out _ _ (fun _ => qs) ?_
            clear hK9 K9
            try simp only [Act.put, List.setIfInBounds_toArray, List.set_cons_zero, List.set_cons_succ]
            refine AnyK.two (i := 4) (j := 7) (by kernel_rfl) rfl rfl (fun K9 hK9 => ?_) (fun K9 hK9 => ?_)
            · refine step_append_typed _ (by rfl) (.tmp 38) (.tmp 40) 50 (by rfl) 29 i0 _ 1 8 Try.underlying50 I0.out.1 I0.out.2.1 I0.out.2.2.1 I0.out.2.2.2 rfl (by decide) (.slice a1 n c1) n (intC ((psU set j).map told)) (by simp [Act.eval]) (HH1.out.row 1 rfl) (.slice (some ⟨b3, 0, none⟩) 1 1) 1 [.int .i64 (told j)] (by simp [Act.eval]) (RdV.block (cs := #[.int .i64 (told j)]) (t := 29) (HH1.out.blk 0 rfl) rfl (by decide)) (fun u hu => by simp at hu; subst hu; rfl) HL.out.1 HL.out.2 ?_
              intro a3 c3 w3 q3 grow3 hat3
              have H9 := HH1.out.growRow 1 rfl (Fr.refl _ _) q3 grow3 (fun g hg => (hat3 g hg).resolve_left (fun h => absurd h.1 (by decide)))
              clear q3 grow3 hat3
              have H9 : Heap w0 w3 ([blkP b3 29 #[.int .i64 (told j)], rowP 29 1 (.slice a3 (n + 1) c3) (n + 1) (intC ((psU set j).map told) ++ [.int .i64 (told j)]), rowP 2 1 (.slice a2 n c2) n (intC (List.replicate n 0)), blkP rb 78 #[.slice a1 n c1, .slice a2 n c2, .int .i64 1, .int .i64 0, .int .i64 (200 + 10 * (j : Int)), .int .i64 nw], blkP b8 78 #[.slice none 0 0, .slice none 0 0, .int .i64 0, .int .i64 0, .int .i64 0, .int .i64 0]] ++ (wdL c s ++ (rowP 29 1 (.slice (some g9) 5 cp) 5 (intC (tolds 5)) :: Z))) := H9
              have HH2 := Lib.hid H9
              clear H9 HH1
              have BW := HH2.out.blk 3 (b := rb) (t := 78) (c := #[.slice a1 n c1, .slice a2 n c2, .int .i64 1, .int .i64 0, .int .i64 (200 + 10 * (j : Int)), .int .i64 nw]) rfl
              have qs := And.intro (BW.cell 0) (BW.cell 1)
              clear BW
              refine hK9.out _ _ (fun _ => qs) ?_
              clear hK9 K9
              try simp only [Act.put, List.setIfInBounds_toArray, List.set_cons_zero, List.set_cons_succ]
              refine AnyK.take (i := 9) (v := ?_) rfl (by kernel_rfl) (by kernel_rfl) (by kernel_rfl) (by kernel_rfl) (fun _ _ _ h => h) (Or.inl ⟨by rfl, ?_⟩) (by exact ⟨(HH2.out.blk 3 rfl).cell 0, (HH2.out.blk 3 rfl).cell 1⟩) ?_
              rotate_left
              focus
                intro w9 hSw
                try dsimp only at hSw
                go_simp
                try with_reducible rfl
              try simp only [Act.put, List.setIfInBounds_toArray, List.set_cons_zero, List.set_cons_succ]
              refine AnyK.one (i := 7) (by kernel_rfl) rfl (fun K9 hK9 => ?_)
              go_simp
              have H9 := HH2.out.allocF 2 #[.int .i64 0]
              generalize hb : w3.heap.size = b7 at *
              generalize hx : w3.alloc (.cells #[.int .i64 0] 2) = x7 at *
              clear hb hx
              have H9 : Heap w0 x7 ([blkP b7 2 #[.int .i64 0], blkP b3 29 #[.int .i64 (told j)], rowP 29 1 (.slice a3 (n + 1) c3) (n + 1) (intC ((psU set j).map told) ++ [.int .i64 (told j)]), rowP 2 1 (.slice a2 n c2) n (intC (List.replicate n 0)), blkP rb 78 #[.slice a1 n c1, .slice a2 n c2, .int .i64 1, .int .i64 0, .int .i64 (200 + 10 * (j : Int)), .int .i64 nw], blkP b8 78 #[.slice none 0 0, .slice none 0 0, .int .i64 0, .int .i64 0, .int .i64 0, .int .i64 0]] ++ (wdL c s ++ (rowP 29 1 (.slice (some g9) 5 cp) 5 (intC (tolds 5)) :: Z))) := H9
              have HH3 := Lib.hid H9
              clear H9 HH2
              have BW := HH3.out.blk 4 (b := rb) (t := 78) (c := #[.slice a1 n c1, .slice a2 n c2, .int .i64 1, .int .i64 0, .int .i64 (200 + 10 * (j : Int)), .int .i64 nw]) rfl
              have qs := And.intro (BW.cell 0) (BW.cell 1)
              clear BW
              refine hK9.out _ _ (fun _ => qs) ?_
              clear hK9 K9
              try simp only [Act.put, List.setIfInBounds_toArray, List.set_cons_zero, List.set_cons_succ]
              refine AnyK.one (i := 8) (by kernel_rfl) rfl (fun K9 hK9 => ?_)
              refine step_append_typed _ (by rfl) (.tmp 43) (.tmp 44) 35 (by rfl) 2 j0 _ 1 8 Try.underlying35 J0.out.1 J0.out.2.1 J0.out.2.2.1 J0.out.2.2.2 rfl (by decide) (.slice a2 n c2) n (intC (List.replicate n 0)) (by simp [Act.eval]) (HH3.out.row 3 rfl) (.slice (some ⟨b7, 0, none⟩) 1 1) 1 [.int .i64 0] (by simp [Act.eval]) (RdV.block (cs := #[.int .i64 0]) (t := 2) (HH3.out.blk 0 rfl) rfl (by decide)) (fun u hu => by simp at hu; subst hu; rfl) HL.out.1 HL.out.2 ?_
              intro a4 c4 w4 q4 grow4 hat4
              have H9 := HH3.out.growRow 3 rfl (Fr.refl _ _) q4 grow4 (fun g hg => (hat4 g hg).resolve_left (fun h => absurd h.1 (by decide)))
              clear q4 grow4 hat4
              have H9 : Heap w0 w4 ([blkP b7 2 #[.int .i64 0], blkP b3 29 #[.int .i64 (told j)], rowP 29 1 (.slice a3 (n + 1) c3) (n + 1) (intC ((psU set j).map told) ++ [.int .i64 (told j)]), rowP 2 1 (.slice a4 (n + 1) c4) (n + 1) (intC (List.replicate n 0) ++ [.int .i64 0]), blkP rb 78 #[.slice a1 n c1, .slice a2 n c2, .int .i64 1, .int .i64 0, .int .i64 (200 + 10 * (j : Int)), .int .i64 nw], blkP b8 78 #[.slice none 0 0, .slice none 0 0, .int .i64 0, .int .i64 0, .int .i64 0, .int .i64 0]] ++ (wdL c s ++ (rowP 29 1 (.slice (some g9) 5 cp) 5 (intC (tolds 5)) :: Z))) := H9
              have HH4 := Lib.hid H9
              clear H9 HH3
              have BW := HH4.out.blk 4 (b := rb) (t := 78) (c := #[.slice a1 n c1, .slice a2 n c2, .int .i64 1, .int .i64 0, .int .i64 (200 + 10 * (j : Int)), .int .i64 nw]) rfl
              have qs := And.intro (BW.cell 0) (BW.cell 1)
              clear BW
              refine hK9.out _ _ (fun _ => qs) ?_
              clear hK9 K9
              try simp only [Act.put, List.setIfInBounds_toArray, List.set_cons_zero, List.set_cons_succ]
              refine AnyK.phase (S' := fun _ => True) (ks' := []) (by kernel_rfl) ?_
              have B1 := HH4.out.blk 4 (b := rb) (t := 78) (c := #[.slice a1 n c1, .slice a2 n c2, .int .i64 1, .int .i64 0, .int .i64 (200 + 10 * (j : Int)), .int .i64 nw]) rfl
              have e10 := B1.cell 0
              have f10 := B1.froz 0
              have e11 := B1.cell 1
              have f11 := B1.froz 1
              clear B1
              have H9 := (HH4.out.setCell 4 rfl 0 (.slice a3 (n + 1) c3)).setCell 4 rfl 1 (.slice a4 (n + 1) c4)
              have H9 : Heap w0 _ ([blkP b7 2 #[.int .i64 0], blkP b3 29 #[.int .i64 (told j)], rowP 29 1 (.slice a3 (n + 1) c3) (n + 1) (intC ((psU set j).map told) ++ [.int .i64 (told j)]), rowP 2 1 (.slice a4 (n + 1) c4) (n + 1) (intC (List.replicate n 0) ++ [.int .i64 0]), blkP rb 78 #[.slice a3 (n + 1) c3, .slice a4 (n + 1) c4, .int .i64 1, .int .i64 0, .int .i64 (200 + 10 * (j : Int)), .int .i64 nw], blkP b8 78 #[.slice none 0 0, .slice none 0 0, .int .i64 0, .int .i64 0, .int .i64 0, .int .i64 0]] ++ (wdL c s ++ (rowP 29 1 (.slice (some g9) 5 cp) 5 (intC (tolds 5)) :: Z))) := H9
              have H9 := Lib.hid H9.tailP.tailP
              refine AnyK.one (i := 10) (by kernel_rfl) rfl (fun K9 hK9 => ?_)
              go_simp
              refine hK9.out _ _ (fun _ => trivial) ?_
              clear hK9 K9
              try simp only [Act.put, List.setIfInBounds_toArray, List.set_cons_zero, List.set_cons_succ]
              refine AnyK.take (i := 11) (v := ?_) rfl (by kernel_rfl) (by kernel_rfl) (by kernel_rfl) (by kernel_rfl) (fun _ _ _ h => h) (Or.inl ⟨by rfl, ?_⟩) (by exact trivial) ?_
              rotate_left
              focus
                intro w9 hSw
                try dsimp only at hSw
                go_simp
                try with_reducible rfl
              try simp only [Act.put, List.setIfInBounds_toArray, List.set_cons_zero, List.set_cons_succ]
              refine AnyK.one (i := 12) (by kernel_rfl) rfl (fun K9 hK9 => ?_)
              go_simp
              refine hK9.out _ _ (fun _ => trivial) ?_
              clear hK9 K9
              try simp only [Act.put, List.setIfInBounds_toArray, List.set_cons_zero, List.set_cons_succ]
              refine AnyK.done (by kernel_rfl) ?_ _
              refine NoPanic.normal ?_
              have HX := rvl_next HB.out trivial HP.out HN0.out.1 H9.out
              clear H9
              go_wp2_with fail
              exact ⟨⟨j + 1, by go_num, by omega, HX⟩, by simp [intOf]; omega⟩
            · go_simp
              have H9 := HH1.out.allocF 2 #[.int .i64 0]
              generalize hb : x3.heap.size = b7 at *
              generalize hx : x3.alloc (.cells #[.int .i64 0] 2) = x7 at *
              clear hb hx
              have H9 : Heap w0 x7 ([blkP b7 2 #[.int .i64 0], blkP b3 29 #[.int .i64 (told j)], rowP 29 1 (.slice a1 n c1) n (intC ((psU set j).map told)), rowP 2 1 (.slice a2 n c2) n (intC (List.replicate n 0)), blkP rb 78 #[.slice a1 n c1, .slice a2 n c2, .int .i64 1, .int .i64 0, .int .i64 (200 + 10 * (j : Int)), .int .i64 nw], blkP b8 78 #[.slice none 0 0, .slice none 0 0, .int .i64 0, .int .i64 0, .int .i64 0, .int .i64 0]] ++ (wdL c s ++ (rowP 29 1 (.slice (some g9) 5 cp) 5 (intC (tolds 5)) :: Z))) := H9
              have HH2 := Lib.hid H9
              clear H9 HH1
              have BW := HH2.out.blk 4 (b := rb) (t := 78) (c := #[.slice a1 n c1, .slice a2 n c2, .int .i64 1, .int .i64 0, .int .i64 (200 + 10 * (j : Int)), .int .i64 nw]) rfl
              have qs := And.intro (BW.cell 0) (BW.cell 1)
              clear BW
              refine hK9.out _ _ (fun _ => qs) ?_
              clear hK9 K9
              try simp only [Act.put, List.setIfInBounds_toArray, List.set_cons_zero, List.set_cons_succ]
              refine AnyK.one (i := 4) (by kernel_rfl) rfl (fun K9 hK9 => ?_)
              refine step_append_typed _ (by rfl) (.tmp 38) (.tmp 40) 50 (by rfl) 29 i0 _ 1 8 Try.underlying50 I0.out.1 I0.out.2.1 I0.out.2.2.1 I0.out.2.2.2 rfl (by decide) (.slice a1 n c1) n (intC ((psU set j).map told)) (by simp [Act.eval]) (HH2.out.row 2 rfl) (.slice (some ⟨b3, 0, none⟩) 1 1) 1 [.int .i64 (told j)] (by simp [Act.eval]) (RdV.block (cs := #[.int .i64 (told j)]) (t := 29) (HH2.out.blk 1 rfl) rfl (by decide)) (fun u hu => by simp at hu; subst hu; rfl) HL.out.1 HL.out.2 ?_
              intro a3 c3 w3 q3 grow3 hat3
              have H9 := HH2.out.growRow 2 rfl (Fr.refl _ _) q3 grow3 (fun g hg => (hat3 g hg).resolve_left (fun h => absurd h.1 (by decide)))
              clear q3 grow3 hat3
              have H9 : Heap w0 w3 ([blkP b7 2 #[.int .i64 0], blkP b3 29 #[.int .i64 (told j)], rowP 29 1 (.slice a3 (n + 1) c3) (n + 1) (intC ((psU set j).map told) ++ [.int .i64 (told j)]), rowP 2 1 (.slice a2 n c2) n (intC (List.replicate n 0)), blkP rb 78 #[.slice a1 n c1, .slice a2 n c2, .int .i64 1, .int .i64 0, .int .i64 (200 + 10 * (j : Int)), .int .i64 nw], blkP b8 78 #[.slice none 0 0, .slice none 0 0, .int .i64 0, .int .i64 0, .int .i64 0, .int .i64 0]] ++ (wdL c s ++ (rowP 29 1 (.slice (some g9) 5 cp) 5 (intC (tolds 5)) :: Z))) := H9
              have HH3 := Lib.hid H9
              clear H9 HH2
              have BW := HH3.out.blk 4 (b := rb) (t := 78) (c := #[.slice a1 n c1, .slice a2 n c2, .int .i64 1, .int .i64 0, .int .i64 (200 + 10 * (j : Int)), .int .i64 nw]) rfl
              have qs := And.intro (BW.cell 0) (BW.cell 1)
              clear BW
              refine hK9.out _ _ (fun _ => qs) ?_
              clear hK9 K9
              try simp only [Act.put, List.setIfInBounds_toArray, List.set_cons_zero, List.set_cons_succ]
              refine AnyK.take (i := 9) (v := ?_) rfl (by kernel_rfl) (by kernel_rfl) (by kernel_rfl) (by kernel_rfl) (fun _ _ _ h => h) (Or.inl ⟨by rfl, ?_⟩) (by exact ⟨(HH3.out.blk 4 rfl).cell 0, (HH3.out.blk 4 rfl).cell 1⟩) ?_
              rotate_left
              focus
                intro w9 hSw
                try dsimp only at hSw
                go_simp
                try with_reducible rfl
              try simp only [Act.put, List.setIfInBounds_toArray, List.set_cons_zero, List.set_cons_succ]
              refine AnyK.one (i := 8) (by kernel_rfl) rfl (fun K9 hK9 => ?_)
              refine step_append_typed _ (by rfl) (.tmp 43) (.tmp 44) 35 (by rfl) 2 j0 _ 1 8 Try.underlying35 J0.out.1 J0.out.2.1 J0.out.2.2.1 J0.out.2.2.2 rfl (by decide) (.slice a2 n c2) n (intC (List.replicate n 0)) (by simp [Act.eval]) (HH3.out.row 3 rfl) (.slice (some ⟨b7, 0, none⟩) 1 1) 1 [.int .i64 0] (by simp [Act.eval]) (RdV.block (cs := #[.int .i64 0]) (t := 2) (HH3.out.blk 0 rfl) rfl (by decide)) (fun u hu => by simp at hu; subst hu; rfl) HL.out.1 HL.out.2 ?_
              intro a4 c4 w4 q4 grow4 hat4
              have H9 := HH3.out.growRow 3 rfl (Fr.refl _ _) q4 grow4 (fun g hg => (hat4 g hg).resolve_left (fun h => absurd h.1 (by decide)))
              clear q4 grow4 hat4
              have H9 : Heap w0 w4 ([blkP b7 2 #[.int .i64 0], blkP b3 29 #[.int .i64 (told j)], rowP 29 1 (.slice a3 (n + 1) c3) (n + 1) (intC ((psU set j).map told) ++ [.int .i64 (told j)]), rowP 2 1 (.slice a4 (n + 1) c4) (n + 1) (intC (List.replicate n 0) ++ [.int .i64 0]), blkP rb 78 #[.slice a1 n c1, .slice a2 n c2, .int .i64 1, .int .i64 0, .int .i64 (200 + 10 * (j : Int)), .int .i64 nw], blkP b8 78 #[.slice none 0 0, .slice none 0 0, .int .i64 0, .int .i64 0, .int .i64 0, .int .i64 0]] ++ (wdL c s ++ (rowP 29 1 (.slice (some g9) 5 cp) 5 (intC (tolds 5)) :: Z))) := H9
              have HH4 := Lib.hid H9
              clear H9 HH3
              have BW := HH4.out.blk 4 (b := rb) (t := 78) (c := #[.slice a1 n c1, .slice a2 n c2, .int .i64 1, .int .i64 0, .int .i64 (200 + 10 * (j : Int)), .int .i64 nw]) rfl
              have qs := And.intro (BW.cell 0) (BW.cell 1)
              clear BW
              refine hK9.out _ _ (fun _ => qs) ?_
              clear hK9 K9
              try simp only [Act.put, List.setIfInBounds_toArray, List.set_cons_zero, List.set_cons_succ]
              refine AnyK.phase (S' := fun _ => True) (ks' := []) (by kernel_rfl) ?_
              have B1 := HH4.out.blk 4 (b := rb) (t := 78) (c := #[.slice a1 n c1, .slice a2 n c2, .int .i64 1, .int .i64 0, .int .i64 (200 + 10 * (j : Int)), .int .i64 nw]) rfl
              have e10 := B1.cell 0
              have f10 := B1.froz 0
              have e11 := B1.cell 1
              have f11 := B1.froz 1
              clear B1
              have H9 := (HH4.out.setCell 4 rfl 0 (.slice a3 (n + 1) c3)).setCell 4 rfl 1 (.slice a4 (n + 1) c4)
              have H9 : Heap w0 _ ([blkP b7 2 #[.int .i64 0], blkP b3 29 #[.int .i64 (told j)], rowP 29 1 (.slice a3 (n + 1) c3) (n + 1) (intC ((psU set j).map told) ++ [.int .i64 (told j)]), rowP 2 1 (.slice a4 (n + 1) c4) (n + 1) (intC (List.replicate n 0) ++ [.int .i64 0]), blkP rb 78 #[.slice a3 (n + 1) c3, .slice a4 (n + 1) c4, .int .i64 1, .int .i64 0, .int .i64 (200 + 10 * (j : Int)), .int .i64 nw], blkP b8 78 #[.slice none 0 0, .slice none 0 0, .int .i64 0, .int .i64 0, .int .i64 0, .int .i64 0]] ++ (wdL c s ++ (rowP 29 1 (.slice (some g9) 5 cp) 5 (intC (tolds 5)) :: Z))) := H9
              have H9 := Lib.hid H9.tailP.tailP
              refine AnyK.one (i := 10) (by kernel_rfl) rfl (fun K9 hK9 => ?_)
              go_simp
              refine hK9.out _ _ (fun _ => trivial) ?_
              clear hK9 K9
              try simp only [Act.put, List.setIfInBounds_toArray, List.set_cons_zero, List.set_cons_succ]
              refine AnyK.take (i := 11) (v := ?_) rfl (by kernel_rfl) (by kernel_rfl) (by kernel_rfl) (by kernel_rfl) (fun _ _ _ h => h) (Or.inl ⟨by rfl, ?_⟩) (by exact trivial) ?_
              rotate_left
              focus
                intro w9 hSw
                try dsimp only at hSw
                go_simp
                try with_reducible rfl
              try simp only [Act.put, List.setIfInBounds_toArray, List.set_cons_zero, List.set_cons_succ]
              refine AnyK.one (i := 12) (by kernel_rfl) rfl (fun K9 hK9 => ?_)
              go_simp
              refine hK9.out _ _ (fun _ => trivial) ?_
              clear hK9 K9
              try simp only [Act.put, List.setIfInBounds_toArray, List.set_cons_zero, List.set_cons_succ]
              refine AnyK.done (by kernel_rfl) ?_ _
              refine NoPanic.normal ?_
              have HX := rvl_next HB.out trivial HP.out HN0.out.1 H9.out
              clear H9
              go_wp2_with fail
              exact ⟨⟨j + 1, by go_num, by omega, HX⟩, by simp [intOf]; omega⟩
          · go_simp
            have H9 := HZ.out.allocF 2 #[.int .i64 0]
            generalize hb : z0.heap.size = b7 at *
            generalize hx : z0.alloc (.cells #[.int .i64 0] 2) = x7 at *
            clear hb hx
            have H9 : Heap w0 x7 ([blkP b7 2 #[.int .i64 0], rowP 29 1 (.slice a1 n c1) n (intC ((psU set j).map told)), rowP 2 1 (.slice a2 n c2) n (intC (List.replicate n 0)), blkP rb 78 #[.slice a1 n c1, .slice a2 n c2, .int .i64 1, .int .i64 0, .int .i64 (200 + 10 * (j : Int)), .int .i64 nw], blkP b8 78 #[.slice none 0 0, .slice none 0 0, .int .i64 0, .int .i64 0, .int .i64 0, .int .i64 0]] ++ (wdL c s ++ (rowP 29 1 (.slice (some g9) 5 cp) 5 (intC (tolds 5)) :: Z))) := H9
            have HH1 := Lib.hid H9
            clear H9 HZ
            have BW := HH1.out.blk 3 (b := rb) (t := 78) (c := #[.slice a1 n c1, .slice a2 n c2, .int .i64 1, .int .i64 0, .int .i64 (200 + 10 * (j : Int)), .int .i64 nw]) rfl
            have qs := And.intro (BW.cell 0) (BW.cell 1)
            clear BW
            refine hK9.out _ _ (fun _ => qs) ?_
            clear hK9 K9
            try simp only [Act.put, List.setIfInBounds_toArray, List.set_cons_zero, List.set_cons_succ]
            refine AnyK.one (i := 3) (by kernel_rfl) rfl (fun K9 hK9 => ?_)
            go_simp
            have H9 := HH1.out.allocF 29 #[.int .i64 (told j)]
            generalize hb : x7.heap.size = b3 at *
            generalize hx : x7.alloc (.cells #[.int .i64 (told j)] 29) = x3 at *
            clear hb hx
            have H9 : Heap w0 x3 ([blkP b3 29 #[.int .i64 (told j)], blkP b7 2 #[.int .i64 0], rowP 29 1 (.slice a1 n c1) n (intC ((psU set j).map told)), rowP 2 1 (.slice a2 n c2) n (intC (List.replicate n 0)), blkP rb 78 #[.slice a1 n c1, .slice a2 n c2, .int .i64 1, .int .i64 0, .int .i64 (200 + 10 * (j : Int)), .int .i64 nw], blkP b8 78 #[.slice none 0 0, .slice none 0 0, .int .i64 0, .int .i64 0, .int .i64 0, .int .i64 0]] ++ (wdL c s ++ (rowP 29 1 (.slice (some g9) 5 cp) 5 (intC (tolds 5)) :: Z))) := H9
            have HH2 := Lib.hid H9
            clear H9 HH1
            have BW := HH2.out.blk 4 (b := rb) (t := 78) (c := #[.slice a1 n c1, .slice a2 n c2, .int .i64 1, .int .i64 0, .int .i64 (200 + 10 * (j : Int)), .int .i64 nw]) rfl
            have qs := And.intro (BW.cell 0) (BW.cell 1)
            clear BW
            refine hK9.out _ _ (fun _ => qs) ?_
            clear hK9 K9
            try simp only [Act.put, List.setIfInBounds_toArray, List.set_cons_zero, List.set_cons_succ]
            refine AnyK.one (i := 4) (by kernel_rfl) rfl (fun K9 hK9 => ?_)
            refine step_append_typed _ (by rfl) (.tmp 38) (.tmp 40) 50 (by rfl) 29 i0 _ 1 8 Try.underlying50 I0.out.1 I0.out.2.1 I0.out.2.2.1 I0.out.2.2.2 rfl (by decide) (.slice a1 n c1) n (intC ((psU set j).map told)) (by simp [Act.eval]) (HH2.out.row 2 rfl) (.slice (some ⟨b3, 0, none⟩) 1 1) 1 [.int .i64 (told j)] (by simp [Act.eval]) (RdV.block (cs := #[.int .i64 (told j)]) (t := 29) (HH2.out.blk 0 rfl) rfl (by decide)) (fun u hu => by simp at hu; subst hu; rfl) HL.out.1 HL.out.2 ?_
            intro a3 c3 w3 q3 grow3 hat3
            have H9 := HH2.out.growRow 2 rfl (Fr.refl _ _) q3 grow3 (fun g hg => (hat3 g hg).resolve_left (fun h => absurd h.1 (by decide)))
            clear q3 grow3 hat3
            have H9 : Heap w0 w3 ([blkP b3 29 #[.int .i64 (told j)], blkP b7 2 #[.int .i64 0], rowP 29 1 (.slice a3 (n + 1) c3) (n + 1) (intC ((psU set j).map told) ++ [.int .i64 (told j)]), rowP 2 1 (.slice a2 n c2) n (intC (List.replicate n 0)), blkP rb 78 #[.slice a1 n c1, .slice a2 n c2, .int .i64 1, .int .i64 0, .int .i64 (200 + 10 * (j : Int)), .int .i64 nw], blkP b8 78 #[.slice none 0 0, .slice none 0 0, .int .i64 0, .int .i64 0, .int .i64 0, .int .i64 0]] ++ (wdL c s ++ (rowP 29 1 (.slice (some g9) 5 cp) 5 (intC (tolds 5)) :: Z))) := H9
            have HH3 := Lib.hid H9
            clear H9 HH2
            have BW := HH3.out.blk 4 (b := rb) (t := 78) (c := #[.slice a1 n c1, .slice a2 n c2, .int .i64 1, .int .i64 0, .int .i64 (200 + 10 * (j : Int)), .int .i64 nw]) rfl
            have qs := And.intro (BW.cell 0) (BW.cell 1)
            clear BW
            refine hK9.out _ _ (fun _ => qs) ?_
            clear hK9 K9
            try simp only [Act.put, List.setIfInBounds_toArray, List.set_cons_zero, List.set_cons_succ]
            refine AnyK.take (i := 9) (v := ?_) rfl (by kernel_rfl) (by kernel_rfl) (by kernel_rfl) (by kernel_rfl) (fun _ _ _ h => h) (Or.inl ⟨by rfl, ?_⟩) (by exact ⟨(HH3.out.blk 4 rfl).cell 0, (HH3.out.blk 4 rfl).cell 1⟩) ?_
            rotate_left
            focus
              intro w9 hSw
              try dsimp only at hSw
              go_simp
              try with_reducible rfl
            try simp only [Act.put, List.setIfInBounds_toArray, List.set_cons_zero, List.set_cons_succ]
            refine AnyK.one (i := 8) (by kernel_rfl) rfl (fun K9 hK9 => ?_)
            refine step_append_typed _ (by rfl) (.tmp 43) (.tmp 44) 35 (by rfl) 2 j0 _ 1 8 Try.underlying35 J0.out.1 J0.out.2.1 J0.out.2.2.1 J0.out.2.2.2 rfl (by decide) (.slice a2 n c2) n (intC (List.replicate n 0)) (by simp [Act.eval]) (HH3.out.row 3 rfl) (.slice (some ⟨b7, 0, none⟩) 1 1) 1 [.int .i64 0] (by simp [Act.eval]) (RdV.block (cs := #[.int .i64 0]) (t := 2) (HH3.out.blk 1 rfl) rfl (by decide)) (fun u hu => by simp at hu; subst hu; rfl) HL.out.1 HL.out.2 ?_
            intro a4 c4 w4 q4 grow4 hat4
            have H9 := HH3.out.growRow 3 rfl (Fr.refl _ _) q4 grow4 (fun g hg => (hat4 g hg).resolve_left (fun h => absurd h.1 (by decide)))
            clear q4 grow4 hat4
            have H9 : Heap w0 w4 ([blkP b3 29 #[.int .i64 (told j)], blkP b7 2 #[.int .i64 0], rowP 29 1 (.slice a3 (n + 1) c3) (n + 1) (intC ((psU set j).map told) ++ [.int .i64 (told j)]), rowP 2 1 (.slice a4 (n + 1) c4) (n + 1) (intC (List.replicate n 0) ++ [.int .i64 0]), blkP rb 78 #[.slice a1 n c1, .slice a2 n c2, .int .i64 1, .int .i64 0, .int .i64 (200 + 10 * (j : Int)), .int .i64 nw], blkP b8 78 #[.slice none 0 0, .slice none 0 0, .int .i64 0, .int .i64 0, .int .i64 0, .int .i64 0]] ++ (wdL c s ++ (rowP 29 1 (.slice (some g9) 5 cp) 5 (intC (tolds 5)) :: Z))) := H9
            have HH4 := Lib.hid H9
            clear H9 HH3
            have BW := HH4.out.blk 4 (b := rb) (t := 78) (c := #[.slice a1 n c1, .slice a2 n c2, .int .i64 1, .int .i64 0, .int .i64 (200 + 10 * (j : Int)), .int .i64 nw]) rfl
            have qs := And.intro (BW.cell 0) (BW.cell 1)
            clear BW
            refine hK9.out _ _ (fun _ => qs) ?_
            clear hK9 K9
            try simp only [Act.put, List.setIfInBounds_toArray, List.set_cons_zero, List.set_cons_succ]
            refine AnyK.phase (S' := fun _ => True) (ks' := []) (by kernel_rfl) ?_
            have B1 := HH4.out.blk 4 (b := rb) (t := 78) (c := #[.slice a1 n c1, .slice a2 n c2, .int .i64 1, .int .i64 0, .int .i64 (200 + 10 * (j : Int)), .int .i64 nw]) rfl
            have e10 := B1.cell 0
            have f10 := B1.froz 0
            have e11 := B1.cell 1
            have f11 := B1.froz 1
            clear B1
            have H9 := (HH4.out.setCell 4 rfl 0 (.slice a3 (n + 1) c3)).setCell 4 rfl 1 (.slice a4 (n + 1) c4)
            have H9 : Heap w0 _ ([blkP b3 29 #[.int .i64 (told j)], blkP b7 2 #[.int .i64 0], rowP 29 1 (.slice a3 (n + 1) c3) (n + 1) (intC ((psU set j).map told) ++ [.int .i64 (told j)]), rowP 2 1 (.slice a4 (n + 1) c4) (n + 1) (intC (List.replicate n 0) ++ [.int .i64 0]), blkP rb 78 #[.slice a3 (n + 1) c3, .slice a4 (n + 1) c4, .int .i64 1, .int .i64 0, .int .i64 (200 + 10 * (j : Int)), .int .i64 nw], blkP b8 78 #[.slice none 0 0, .slice none 0 0, .int .i64 0, .int .i64 0, .int .i64 0, .int .i64 0]] ++ (wdL c s ++ (rowP 29 1 (.slice (some g9) 5 cp) 5 (intC (tolds 5)) :: Z))) := H9
            have H9 := Lib.hid H9.tailP.tailP
            refine AnyK.one (i := 10) (by kernel_rfl) rfl (fun K9 hK9 => ?_)
            go_simp
            refine hK9.out _ _ (fun _ => trivial) ?_
            clear hK9 K9
            try simp only [Act.put, List.setIfInBounds_toArray, List.set_cons_zero, List.set_cons_succ]
            refine AnyK.take (i := 11) (v := ?_) rfl (by kernel_rfl) (by kernel_rfl) (by kernel_rfl) (by kernel_rfl) (fun _ _ _ h => h) (Or.inl ⟨by rfl, ?_⟩) (by exact trivial) ?_
            rotate_left
            focus
              intro w9 hSw
              try dsimp only at hSw
              go_simp
              try with_reducible rfl
            try simp only [Act.put, List.setIfInBounds_toArray, List.set_cons_zero, List.set_cons_succ]
            refine AnyK.one (i := 12) (by kernel_rfl) rfl (fun K9 hK9 => ?_)
            go_simp
            refine hK9.out _ _ (fun _ => trivial) ?_
            clear hK9 K9
            try simp only [Act.put, List.setIfInBounds_toArray, List.set_cons_zero, List.set_cons_succ]
            refine AnyK.done (by kernel_rfl) ?_ _
            refine NoPanic.normal ?_
            have HX := rvl_next HB.out trivial HP.out HN0.out.1 H9.out
            clear H9
            go_wp2_with fail
            exact ⟨⟨j + 1, by go_num, by omega, HX⟩, by simp [intOf]; omega⟩
        · have BR := H0.blk 2 (b := rb) (t := 78) (c := #[.slice a1 n c1, .slice a2 n c2, .int .i64 1, .int .i64 0, .int .i64 old, .int .i64 nw]) rfl
          have e0 := BR.cell 0
          have e4 := BR.cell 4
          have f4 := BR.froz 4
          clear BR
          have hz : ((n : Int) == 0) = false := beq_eq_false_iff_ne.2 (by omega)
          have H1 := Lib.hid H0
          have HN0 := Lib.hid (And.intro hn (And.intro hn5 hn0))
          have HO := Lib.hid (And.intro ho1 ho2)
          clear H0 hn hn5 hn0 ho1 ho2
          go_upto_region 8 with fail
          clear hz e0 e4 f4 y1 hb1
          have ho1 : old = 200 + 10 * (((psU set j ++ [j]).headD 0 : Nat) : Int) := by
            have h1 := HN0.out.1
            have h2 := HN0.out.2.2
            rw [HO.out.2 (by omega)]
            cases hp : psU set j with
            | nil => rw [hp] at h1; simp at h1; omega
            | cons x l => rfl
          have HP := Lib.hid ho1
          clear ho1 HO
          have HZ : Hid (Heap w0 wr.drew ([rowP 29 1 (.slice a1 n c1) n (intC ((psU set j).map told)), rowP 2 1 (.slice a2 n c2) n (intC (List.replicate n 0)), blkP rb 78 #[.slice a1 n c1, .slice a2 n c2, .int .i64 1, .int .i64 0, .int .i64 old, .int .i64 nw], blkP b8 78 #[.slice none 0 0, .slice none 0 0, .int .i64 0, .int .i64 0, .int .i64 0, .int .i64 0]] ++ (wdL c s ++ (rowP 29 1 (.slice (some g9) 5 cp) 5 (intC (tolds 5)) :: Z)))) := Lib.hid H1.out.drew
          clear H1
          have q0 : World.cell? wr.drew ⟨rb, 0, none⟩ = some (.slice a1 n c1) ∧ World.cell? wr.drew ⟨rb, 1, none⟩ = some (.slice a2 n c2) := ⟨(HZ.out.blk 2 (b := rb) (t := 78) (c := #[.slice a1 n c1, .slice a2 n c2, .int .i64 1, .int .i64 0, .int .i64 old, .int .i64 nw]) rfl).cell 0, (HZ.out.blk 2 (b := rb) (t := 78) (c := #[.slice a1 n c1, .slice a2 n c2, .int .i64 1, .int .i64 0, .int .i64 old, .int .i64 nw]) rfl).cell 1⟩
          refine wp_region_noPanic ?_
          refine AnyK.start (ks := [10, 11, 12]) (S := fun w' => w'.cell? ⟨rb, 0, none⟩ = some (.slice a1 n c1) ∧ w'.cell? ⟨rb, 1, none⟩ = some (.slice a2 n c2)) (by kernel_rfl) (by exact q0) (fun _ => ?_)
          refine AnyK.takeB (i := 0) (v := ?_) rfl (by kernel_rfl) (by kernel_rfl) (by kernel_rfl) (by kernel_rfl) (fun _ _ _ h => h) (Or.inl ⟨by rfl, ?_⟩) (by exact q0) ?_
          rotate_left
          focus
            intro w9 hSw
            try dsimp only at hSw
            go_simp
            try with_reducible rfl
          try simp only [Act.put, List.setIfInBounds_toArray, List.set_cons_zero, List.set_cons_succ]
          refine AnyK.takeB (i := 1) (v := ?_) rfl (by kernel_rfl) (by kernel_rfl) (by kernel_rfl) (by kernel_rfl) (fun _ _ _ h => h) (Or.inl ⟨by rfl, ?_⟩) (by exact q0) ?_
          rotate_left
          focus
            intro w9 hSw
            try dsimp only at hSw
            go_simp
            try with_reducible rfl
          try simp only [Act.put, List.setIfInBounds_toArray, List.set_cons_zero, List.set_cons_succ]
          refine AnyK.takeB (i := 2) (v := ?_) rfl (by kernel_rfl) (by kernel_rfl) (by kernel_rfl) (by kernel_rfl) (fun _ _ _ h => h) (Or.inl ⟨by rfl, ?_⟩) (by exact q0) ?_
          rotate_left
          focus
            intro w9 hSw
            try dsimp only at hSw
            go_simp
            try with_reducible rfl
          try simp only [Act.put, List.setIfInBounds_toArray, List.set_cons_zero, List.set_cons_succ]
          refine AnyK.takeB (i := 5) (v := ?_) rfl (by kernel_rfl) (by kernel_rfl) (by kernel_rfl) (by kernel_rfl) (fun _ _ _ h => h) (Or.inl ⟨by rfl, ?_⟩) (by exact q0) ?_
          rotate_left
          focus
            intro w9 hSw
            try dsimp only at hSw
            go_simp
            try with_reducible rfl
          try simp only [Act.put, List.setIfInBounds_toArray, List.set_cons_zero, List.set_cons_succ]
          refine AnyK.takeB (i := 6) (v := ?_) rfl (by kernel_rfl) (by kernel_rfl) (by kernel_rfl) (by kernel_rfl) (fun _ _ _ h => h) (Or.inl ⟨by rfl, ?_⟩) (by exact q0) ?_
          rotate_left
          focus
            intro w9 hSw
            try dsimp only at hSw
            go_simp
            try with_reducible rfl
          try simp only [Act.put, List.setIfInBounds_toArray, List.set_cons_zero, List.set_cons_succ]
          clear q0
          generalize wr.drew = z0 at HZ ⊢
          refine AnyK.two (i := 3) (j := 7) (by kernel_rfl) rfl rfl (fun K9 hK9 => ?_) (fun K9 hK9 => ?_)
          · go_simp
            have H9 := HZ.out.allocF 29 #[.int .i64 (told j)]
            generalize hb : z0.heap.size = b3 at *
            generalize hx : z0.alloc (.cells #[.int .i64 (told j)] 29) = x3 at *
            clear hb hx
            have H9 : Heap w0 x3 ([blkP b3 29 #[.int .i64 (told j)], rowP 29 1 (.slice a1 n c1) n (intC ((psU set j).map told)), rowP 2 1 (.slice a2 n c2) n (intC (List.replicate n 0)), blkP rb 78 #[.slice a1 n c1, .slice a2 n c2, .int .i64 1, .int .i64 0, .int .i64 old, .int .i64 nw], blkP b8 78 #[.slice none 0 0, .slice none 0 0, .int .i64 0, .int .i64 0, .int .i64 0, .int .i64 0]] ++ (wdL c s ++ (rowP 29 1 (.slice (some g9) 5 cp) 5 (intC (tolds 5)) :: Z))) := H9
            have HH1 := Lib.hid H9
            clear H9 HZ
            have BW := HH1.out.blk 3 (b := rb) (t := 78) (c := #[.slice a1 n c1, .slice a2 n c2, .int .i64 1, .int .i64 0, .int .i64 old, .int .i64 nw]) rfl
            have qs := And.intro (BW.cell 0) (BW.cell 1)
            clear BW
            refine hK9.out _ _ (fun _ => qs) ?_
            clear hK9 K9
            try simp only [Act.put, List.setIfInBounds_toArray, List.set_cons_zero, List.set_cons_succ]
            refine AnyK.two (i := 4) (j := 7) (by kernel_rfl) rfl rfl (fun K9 hK9 => ?_) (fun K9 hK9 => ?_)
            · refine step_append_typed _ (by rfl) (.tmp 38) (.tmp 40) 50 (by rfl) 29 i0 _ 1 8 Try.underlying50 I0.out.1 I0.out.2.1 I0.out.2.2.1 I0.out.2.2.2 rfl (by decide) (.slice a1 n c1) n (intC ((psU set j).map told)) (by simp [Act.eval]) (HH1.out.row 1 rfl) (.slice (some ⟨b3, 0, none⟩) 1 1) 1 [.int .i64 (told j)] (by simp [Act.eval]) (RdV.block (cs := #[.int .i64 (told j)]) (t := 29) (HH1.out.blk 0 rfl) rfl (by decide)) (fun u hu => by simp at hu; subst hu; rfl) HL.out.1 HL.out.2 ?_
              intro a3 c3 w3 q3 grow3 hat3
              have H9 := HH1.out.growRow 1 rfl (Fr.refl _ _) q3 grow3 (fun g hg => (hat3 g hg).resolve_left (fun h => absurd h.1 (by decide)))
              clear q3 grow3 hat3
              have H9 : Heap w0 w3 ([blkP b3 29 #[.int .i64 (told j)], rowP 29 1 (.slice a3 (n + 1) c3) (n + 1) (intC ((psU set j).map told) ++ [.int .i64 (told j)]), rowP 2 1 (.slice a2 n c2) n (intC (List.replicate n 0)), blkP rb 78 #[.slice a1 n c1, .slice a2 n c2, .int .i64 1, .int .i64 0, .int .i64 old, .int .i64 nw], blkP b8 78 #[.slice none 0 0, .slice none 0 0, .int .i64 0, .int .i64 0, .int .i64 0, .int .i64 0]] ++ (wdL c s ++ (rowP 29 1 (.slice (some g9) 5 cp) 5 (intC (tolds 5)) :: Z))) := H9
              have HH2 := Lib.hid H9
              clear H9 HH1
              have BW := HH2.out.blk 3 (b := rb) (t := 78) (c := #[.slice a1 n c1, .slice a2 n c2, .int .i64 1, .int .i64 0, .int .i64 old, .int .i64 nw]) rfl
              have qs := And.intro (BW.cell 0) (BW.cell 1)
              clear BW
              refine hK9.out _ _ (fun _ => qs) ?_
              clear hK9 K9
              try simp only [Act.put, List.setIfInBounds_toArray, List.set_cons_zero, List.set_cons_succ]
              refine AnyK.take (i := 9) (v := ?_) rfl (by kernel_rfl) (by kernel_rfl) (by kernel_rfl) (by kernel_rfl) (fun _ _ _ h => h) (Or.inl ⟨by rfl, ?_⟩) (by exact ⟨(HH2.out.blk 3 rfl).cell 0, (HH2.out.blk 3 rfl).cell 1⟩) ?_
              rotate_left
              focus
                intro w9 hSw
                try dsimp only at hSw
                go_simp
                try with_reducible rfl
              try simp only [Act.put, List.setIfInBounds_toArray, List.set_cons_zero, List.set_cons_succ]
              refine AnyK.one (i := 7) (by kernel_rfl) rfl (fun K9 hK9 => ?_)
              go_simp
              have H9 := HH2.out.allocF 2 #[.int .i64 0]
              generalize hb : w3.heap.size = b7 at *
              generalize hx : w3.alloc (.cells #[.int .i64 0] 2) = x7 at *
              clear hb hx
              have H9 : Heap w0 x7 ([blkP b7 2 #[.int .i64 0], blkP b3 29 #[.int .i64 (told j)], rowP 29 1 (.slice a3 (n + 1) c3) (n + 1) (intC ((psU set j).map told) ++ [.int .i64 (told j)]), rowP 2 1 (.slice a2 n c2) n (intC (List.replicate n 0)), blkP rb 78 #[.slice a1 n c1, .slice a2 n c2, .int .i64 1, .int .i64 0, .int .i64 old, .int .i64 nw], blkP b8 78 #[.slice none 0 0, .slice none 0 0, .int .i64 0, .int .i64 0, .int .i64 0, .int .i64 0]] ++ (wdL c s ++ (rowP 29 1 (.slice (some g9) 5 cp) 5 (intC (tolds 5)) :: Z))) := H9
              have HH3 := Lib.hid H9
              clear H9 HH2
              have BW := HH3.out.blk 4 (b := rb) (t := 78) (c := #[.slice a1 n c1, .slice a2 n c2, .int .i64 1, .int .i64 0, .int .i64 old, .int .i64 nw]) rfl
              have qs := And.intro (BW.cell 0) (BW.cell 1)
              clear BW
              refine hK9.out _ _ (fun _ => qs) ?_
              clear hK9 K9
              try simp only [Act.put, List.setIfInBounds_toArray, List.set_cons_zero, List.set_cons_succ]
              refine AnyK.one (i := 8) (by kernel_rfl) rfl (fun K9 hK9 => ?_)
              refine step_append_typed _ (by rfl) (.tmp 43) (.tmp 44) 35 (by rfl) 2 j0 _ 1 8 Try.underlying35 J0.out.1 J0.out.2.1 J0.out.2.2.1 J0.out.2.2.2 rfl (by decide) (.slice a2 n c2) n (intC (List.replicate n 0)) (by simp [Act.eval]) (HH3.out.row 3 rfl) (.slice (some ⟨b7, 0, none⟩) 1 1) 1 [.int .i64 0] (by simp [Act.eval]) (RdV.block (cs := #[.int .i64 0]) (t := 2) (HH3.out.blk 0 rfl) rfl (by decide)) (fun u hu => by simp at hu; subst hu; rfl) HL.out.1 HL.out.2 ?_
              intro a4 c4 w4 q4 grow4 hat4
              have H9 := HH3.out.growRow 3 rfl (Fr.refl _ _) q4 grow4 (fun g hg => (hat4 g hg).resolve_left (fun h => absurd h.1 (by decide)))
              clear q4 grow4 hat4
              have H9 : Heap w0 w4 ([blkP b7 2 #[.int .i64 0], blkP b3 29 #[.int .i64 (told j)], rowP 29 1 (.slice a3 (n + 1) c3) (n + 1) (intC ((psU set j).map told) ++ [.int .i64 (told j)]), rowP 2 1 (.slice a4 (n + 1) c4) (n + 1) (intC (List.replicate n 0) ++ [.int .i64 0]), blkP rb 78 #[.slice a1 n c1, .slice a2 n c2, .int .i64 1, .int .i64 0, .int .i64 old, .int .i64 nw], blkP b8 78 #[.slice none 0 0, .slice none 0 0, .int .i64 0, .int .i64 0, .int .i64 0, .int .i64 0]] ++ (wdL c s ++ (rowP 29 1 (.slice (some g9) 5 cp) 5 (intC (tolds 5)) :: Z))) := H9
              have HH4 := Lib.hid H9
              clear H9 HH3
              have BW := HH4.out.blk 4 (b := rb) (t := 78) (c := #[.slice a1 n c1, .slice a2 n c2, .int .i64 1, .int .i64 0, .int .i64 old, .int .i64 nw]) rfl
              have qs := And.intro (BW.cell 0) (BW.cell 1)
              clear BW
              refine hK9.out _ _ (fun _ => qs) ?_
              clear hK9 K9
              try simp only [Act.put, List.setIfInBounds_toArray, List.set_cons_zero, List.set_cons_succ]
              refine AnyK.phase (S' := fun _ => True) (ks' := []) (by kernel_rfl) ?_
              have B1 := HH4.out.blk 4 (b := rb) (t := 78) (c := #[.slice a1 n c1, .slice a2 n c2, .int .i64 1, .int .i64 0, .int .i64 old, .int .i64 nw]) rfl
              have e10 := B1.cell 0
              have f10 := B1.froz 0
              have e11 := B1.cell 1
              have f11 := B1.froz 1
              clear B1
              have H9 := (HH4.out.setCell 4 rfl 0 (.slice a3 (n + 1) c3)).setCell 4 rfl 1 (.slice a4 (n + 1) c4)
              have H9 : Heap w0 _ ([blkP b7 2 #[.int .i64 0], blkP b3 29 #[.int .i64 (told j)], rowP 29 1 (.slice a3 (n + 1) c3) (n + 1) (intC ((psU set j).map told) ++ [.int .i64 (told j)]), rowP 2 1 (.slice a4 (n + 1) c4) (n + 1) (intC (List.replicate n 0) ++ [.int .i64 0]), blkP rb 78 #[.slice a3 (n + 1) c3, .slice a4 (n + 1) c4, .int .i64 1, .int .i64 0, .int .i64 old, .int .i64 nw], blkP b8 78 #[.slice none 0 0, .slice none 0 0, .int .i64 0, .int .i64 0, .int .i64 0, .int .i64 0]] ++ (wdL c s ++ (rowP 29 1 (.slice (some g9) 5 cp) 5 (intC (tolds 5)) :: Z))) := H9
              have H9 := Lib.hid H9.tailP.tailP
              refine AnyK.one (i := 10) (by kernel_rfl) rfl (fun K9 hK9 => ?_)
              go_simp
              refine hK9.out _ _ (fun _ => trivial) ?_
              clear hK9 K9
              try simp only [Act.put, List.setIfInBounds_toArray, List.set_cons_zero, List.set_cons_succ]
              refine AnyK.take (i := 11) (v := ?_) rfl (by kernel_rfl) (by kernel_rfl) (by kernel_rfl) (by kernel_rfl) (fun _ _ _ h => h) (Or.inl ⟨by rfl, ?_⟩) (by exact trivial) ?_
              rotate_left
              focus
                intro w9 hSw
                try dsimp only at hSw
                go_simp
                try with_reducible rfl
              try simp only [Act.put, List.setIfInBounds_toArray, List.set_cons_zero, List.set_cons_succ]
              refine AnyK.one (i := 12) (by kernel_rfl) rfl (fun K9 hK9 => ?_)
              go_simp
              refine hK9.out _ _ (fun _ => trivial) ?_
              clear hK9 K9
              try simp only [Act.put, List.setIfInBounds_toArray, List.set_cons_zero, List.set_cons_succ]
              refine AnyK.done (by kernel_rfl) ?_ _
              refine NoPanic.normal ?_
              have HX := rvl_next HB.out trivial HP.out HN0.out.1 H9.out
              clear H9
              go_wp2_with fail
              exact ⟨⟨j + 1, by go_num, by omega, HX⟩, by simp [intOf]; omega⟩
            · go_simp
              have H9 := HH1.out.allocF 2 #[.int .i64 0]
              generalize hb : x3.heap.size = b7 at *
              generalize hx : x3.alloc (.cells #[.int .i64 0] 2) = x7 at *
              clear hb hx
              have H9 : Heap w0 x7 ([blkP b7 2 #[.int .i64 0], blkP b3 29 #[.int .i64 (told j)], rowP 29 1 (.slice a1 n c1) n (intC ((psU set j).map told)), rowP 2 1 (.slice a2 n c2) n (intC (List.replicate n 0)), blkP rb 78 #[.slice a1 n c1, .slice a2 n c2, .int .i64 1, .int .i64 0, .int .i64 old, .int .i64 nw], blkP b8 78 #[.slice none 0 0, .slice none 0 0, .int .i64 0, .int .i64 0, .int .i64 0, .int .i64 0]] ++ (wdL c s ++ (rowP 29 1 (.slice (some g9) 5 cp) 5 (intC (tolds 5)) :: Z))) := H9
              have HH2 := Lib.hid H9
              clear H9 HH1
              have BW := HH2.out.blk 4 (b := rb) (t := 78) (c := #[.slice a1 n c1, .slice a2 n c2, .int .i64 1, .int .i64 0, .int .i64 old, .int .i64 nw]) rfl
              have qs := And.intro (BW.cell 0) (BW.cell 1)
              clear BW
              refine hK9.out _ _ (fun _ => qs) ?_
              clear hK9 K9
              try simp only [Act.put, List.setIfInBounds_toArray, List.set_cons_zero, List.set_cons_succ]
              refine AnyK.one (i := 4) (by kernel_rfl) rfl (fun K9 hK9 => ?_)
              refine step_append_typed _ (by rfl) (.tmp 38) (.tmp 40) 50 (by rfl) 29 i0 _ 1 8 Try.underlying50 I0.out.1 I0.out.2.1 I0.out.2.2.1 I0.out.2.2.2 rfl (by decide) (.slice a1 n c1) n (intC ((psU set j).map told)) (by simp [Act.eval]) (HH2.out.row 2 rfl) (.slice (some ⟨b3, 0, none⟩) 1 1) 1 [.int .i64 (told j)] (by simp [Act.eval]) (RdV.block (cs := #[.int .i64 (told j)]) (t := 29) (HH2.out.blk 1 rfl) rfl (by decide)) (fun u hu => by simp at hu; subst hu; rfl) HL.out.1 HL.out.2 ?_
              intro a3 c3 w3 q3 grow3 hat3
              have H9 := HH2.out.growRow 2 rfl (Fr.refl _ _) q3 grow3 (fun g hg => (hat3 g hg).resolve_left (fun h => absurd h.1 (by decide)))
              clear q3 grow3 hat3
              have H9 : Heap w0 w3 ([blkP b7 2 #[.int .i64 0], blkP b3 29 #[.int .i64 (told j)], rowP 29 1 (.slice a3 (n + 1) c3) (n + 1) (intC ((psU set j).map told) ++ [.int .i64 (told j)]), rowP 2 1 (.slice a2 n c2) n (intC (List.replicate n 0)), blkP rb 78 #[.slice a1 n c1, .slice a2 n c2, .int .i64 1, .int .i64 0, .int .i64 old, .int .i64 nw], blkP b8 78 #[.slice none 0 0, .slice none 0 0, .int .i64 0, .int .i64 0, .int .i64 0, .int .i64 0]] ++ (wdL c s ++ (rowP 29 1 (.slice (some g9) 5 cp) 5 (intC (tolds 5)) :: Z))) := H9
              have HH3 := Lib.hid H9
              clear H9 HH2
              have BW := HH3.out.blk 4 (b := rb) (t := 78) (c := #[.slice a1 n c1, .slice a2 n c2, .int .i64 1, .int .i64 0, .int .i64 old, .int .i64 nw]) rfl
              have qs := And.intro (BW.cell 0) (BW.cell 1)
              clear BW
              refine hK9.out _ _ (fun _ => qs) ?_
              clear hK9 K9
              try simp only [Act.put, List.setIfInBounds_toArray, List.set_cons_zero, List.set_cons_succ]
              refine AnyK.take (i := 9) (v := ?_) rfl (by kernel_rfl) (by kernel_rfl) (by kernel_rfl) (by kernel_rfl) (fun _ _ _ h => h) (Or.inl ⟨by rfl, ?_⟩) (by exact ⟨(HH3.out.blk 4 rfl).cell 0, (HH3.out.blk 4 rfl).cell 1⟩) ?_
              rotate_left
              focus
                intro w9 hSw
                try dsimp only at hSw
                go_simp
                try with_reducible rfl
              try simp only [Act.put, List.setIfInBounds_toArray, List.set_cons_zero, List.set_cons_succ]
              refine AnyK.one (i := 8) (by kernel_rfl) rfl (fun K9 hK9 => ?_)
              refine step_append_typed _ (by rfl) (.tmp 43) (.tmp 44) 35 (by rfl) 2 j0 _ 1 8 Try.underlying35 J0.out.1 J0.out.2.1 J0.out.2.2.1 J0.out.2.2.2 rfl (by decide) (.slice a2 n c2) n (intC (List.replicate n 0)) (by simp [Act.eval]) (HH3.out.row 3 rfl) (.slice (some ⟨b7, 0, none⟩) 1 1) 1 [.int .i64 0] (by simp [Act.eval]) (RdV.block (cs := #[.int .i64 0]) (t := 2) (HH3.out.blk 0 rfl) rfl (by decide)) (fun u hu => by simp at hu; subst hu; rfl) HL.out.1 HL.out.2 ?_
              intro a4 c4 w4 q4 grow4 hat4
              have H9 := HH3.out.growRow 3 rfl (Fr.refl _ _) q4 grow4 (fun g hg => (hat4 g hg).resolve_left (fun h => absurd h.1 (by decide)))
              clear q4 grow4 hat4
              have H9 : Heap w0 w4 ([blkP b7 2 #[.int .i64 0], blkP b3 29 #[.int .i64 (told j)], rowP 29 1 (.slice a3 (n + 1) c3) (n + 1) (intC ((psU set j).map told) ++ [.int .i64 (told j)]), rowP 2 1 (.slice a4 (n + 1) c4) (n + 1) (intC (List.replicate n 0) ++ [.int .i64 0]), blkP rb 78 #[.slice a1 n c1, .slice a2 n c2, .int .i64 1, .int .i64 0, .int .i64 old, .int .i64 nw], blkP b8 78 #[.slice none 0 0, .slice none 0 0, .int .i64 0, .int .i64 0, .int .i64 0, .int .i64 0]] ++ (wdL c s ++ (rowP 29 1 (.slice (some g9) 5 cp) 5 (intC (tolds 5)) :: Z))) := H9
              have HH4 := Lib.hid H9
              clear H9 HH3
              have BW := HH4.out.blk 4 (b := rb) (t := 78) (c := #[.slice a1 n c1, .slice a2 n c2, .int .i64 1, .int .i64 0, .int .i64 old, .int .i64 nw]) rfl
              have qs := And.intro (BW.cell 0) (BW.cell 1)
              clear BW
              refine hK9.out _ _ (fun _ => qs) ?_
              clear hK9 K9
              try simp only [Act.put, List.setIfInBounds_toArray, List.set_cons_zero, List.set_cons_succ]
              refine AnyK.phase (S' := fun _ => True) (ks' := []) (by kernel_rfl) ?_
              have B1 := HH4.out.blk 4 (b := rb) (t := 78) (c := #[.slice a1 n c1, .slice a2 n c2, .int .i64 1, .int .i64 0, .int .i64 old, .int .i64 nw]) rfl
              have e10 := B1.cell 0
              have f10 := B1.froz 0
              have e11 := B1.cell 1
              have f11 := B1.froz 1
              clear B1
              have H9 := (HH4.out.setCell 4 rfl 0 (.slice a3 (n + 1) c3)).setCell 4 rfl 1 (.slice a4 (n + 1) c4)
              have H9 : Heap w0 _ ([blkP b7 2 #[.int .i64 0], blkP b3 29 #[.int .i64 (told j)], rowP 29 1 (.slice a3 (n + 1) c3) (n + 1) (intC ((psU set j).map told) ++ [.int .i64 (told j)]), rowP 2 1 (.slice a4 (n + 1) c4) (n + 1) (intC (List.replicate n 0) ++ [.int .i64 0]), blkP rb 78 #[.slice a3 (n + 1) c3, .slice a4 (n + 1) c4, .int .i64 1, .int .i64 0, .int .i64 old, .int .i64 nw], blkP b8 78 #[.slice none 0 0, .slice none 0 0, .int .i64 0, .int .i64 0, .int .i64 0, .int .i64 0]] ++ (wdL c s ++ (rowP 29 1 (.slice (some g9) 5 cp) 5 (intC (tolds 5)) :: Z))) := H9
              have H9 := Lib.hid H9.tailP.tailP
              refine AnyK.one (i := 10) (by kernel_rfl) rfl (fun K9 hK9 => ?_)
              go_simp
              refine hK9.out _ _ (fun _ => trivial) ?_
              clear hK9 K9
              try simp only [Act.put, List.setIfInBounds_toArray, List.set_cons_zero, List.set_cons_succ]
              refine AnyK.take (i := 11) (v := ?_) rfl (by kernel_rfl) (by kernel_rfl) (by kernel_rfl) (by kernel_rfl) (fun _ _ _ h => h) (Or.inl ⟨by rfl, ?_⟩) (by exact trivial) ?_
              rotate_left
              focus
                intro w9 hSw
                try dsimp only at hSw
                go_simp
                try with_reducible rfl
              try simp only [Act.put, List.setIfInBounds_toArray, List.set_cons_zero, List.set_cons_succ]
              refine AnyK.one (i := 12) (by kernel_rfl) rfl (fun K9 hK9 => ?_)
              go_simp
              refine hK9.out _ _ (fun _ => trivial) ?_
              clear hK9 K9
              try simp only [Act.put, List.setIfInBounds_toArray, List.set_cons_zero, List.set_cons_succ]
              refine AnyK.done (by kernel_rfl) ?_ _
              refine NoPanic.normal ?_
              have HX := rvl_next HB.out trivial HP.out HN0.out.1 H9.out
              clear H9
              go_wp2_with fail
              exact ⟨⟨j + 1, by go_num, by omega, HX⟩, by simp [intOf]; omega⟩
          · go_simp
            have H9 := HZ.out.allocF 2 #[.int .i64 0]
            generalize hb : z0.heap.size = b7 at *
            generalize hx : z0.alloc (.cells #[.int .i64 0] 2) = x7 at *
            clear hb hx
            have H9 : Heap w0 x7 ([blkP b7 2 #[.int .i64 0], rowP 29 1 (.slice a1 n c1) n (intC ((psU set j).map told)), rowP 2 1 (.slice a2 n c2) n (intC (List.replicate n 0)), blkP rb 78 #[.slice a1 n c1, .slice a2 n c2, .int .i64 1, .int .i64 0, .int .i64 old, .int .i64 nw], blkP b8 78 #[.slice none 0 0, .slice none 0 0, .int .i64 0, .int .i64 0, .int .i64 0, .int .i64 0]] ++ (wdL c s ++ (rowP 29 1 (.slice (some g9) 5 cp) 5 (intC (tolds 5)) :: Z))) := H9
            have HH1 := Lib.hid H9
            clear H9 HZ
            have BW := HH1.out.blk 3 (b := rb) (t := 78) (c := #[.slice a1 n c1, .slice a2 n c2, .int .i64 1, .int .i64 0, .int .i64 old, .int .i64 nw]) rfl
            have qs := And.intro (BW.cell 0) (BW.cell 1)
            clear BW
            refine hK9.out _ _ (fun _ => qs) ?_
            clear hK9 K9
            try simp only [Act.put, List.setIfInBounds_toArray, List.set_cons_zero, List.set_cons_succ]
            refine AnyK.one (i := 3) (by kernel_rfl) rfl (fun K9 hK9 => ?_)
            go_simp
            have H9 := HH1.out.allocF 29 #[.int .i64 (told j)]
            generalize hb : x7.heap.size = b3 at *
            generalize hx : x7.alloc (.cells #[.int .i64 (told j)] 29) = x3 at *
            clear hb hx
            have H9 : Heap w0 x3 ([blkP b3 29 #[.int .i64 (told j)], blkP b7 2 #[.int .i64 0], rowP 29 1 (.slice a1 n c1) n (intC ((psU set j).map told)), rowP 2 1 (.slice a2 n c2) n (intC (List.replicate n 0)), blkP rb 78 #[.slice a1 n c1, .slice a2 n c2, .int .i64 1, .int .i64 0, .int .i64 old, .int .i64 nw], blkP b8 78 #[.slice none 0 0, .slice none 0 0, .int .i64 0, .int .i64 0, .int .i64 0, .int .i64 0]] ++ (wdL c s ++ (rowP 29 1 (.slice (some g9) 5 cp) 5 (intC (tolds 5)) :: Z))) := H9
            have HH2 := Lib.hid H9
            clear H9 HH1
            have BW := HH2.out.blk 4 (b := rb) (t := 78) (c := #[.slice a1 n c1, .slice a2 n c2, .int .i64 1, .int .i64 0, .int .i64 old, .int .i64 nw]) rfl
            have qs := And.intro (BW.cell 0) (BW.cell 1)
            clear BW
            refine hK9.out _ _ (fun _ => qs) ?_
            clear hK9 K9
            try simp only [Act.put, List.setIfInBounds_toArray, List.set_cons_zero, List.set_cons_succ]
            refine AnyK.one (i := 4) (by kernel_rfl) rfl (fun K9 hK9 => ?_)
            refine step_append_typed _ (by rfl) (.tmp 38) (.tmp 40) 50 (by rfl) 29 i0 _ 1 8 Try.underlying50 I0.out.1 I0.out.2.1 I0.out.2.2.1 I0.out.2.2.2 rfl (by decide) (.slice a1 n c1) n (intC ((psU set j).map told)) (by simp [Act.eval]) (HH2.out.row 2 rfl) (.slice (some ⟨b3, 0, none⟩) 1 1) 1 [.int .i64 (told j)] (by simp [Act.eval]) (RdV.block (cs := #[.int .i64 (told j)]) (t := 29) (HH2.out.blk 0 rfl) rfl (by decide)) (fun u hu => by simp at hu; subst hu; rfl) HL.out.1 HL.out.2 ?_
            intro a3 c3 w3 q3 grow3 hat3
            have H9 := HH2.out.growRow 2 rfl (Fr.refl _ _) q3 grow3 (fun g hg => (hat3 g hg).resolve_left (fun h => absurd h.1 (by decide)))
            clear q3 grow3 hat3
            have H9 : Heap w0 w3 ([blkP b3 29 #[.int .i64 (told j)], blkP b7 2 #[.int .i64 0], rowP 29 1 (.slice a3 (n + 1) c3) (n + 1) (intC ((psU set j).map told) ++ [.int .i64 (told j)]), rowP 2 1 (.slice a2 n c2) n (intC (List.replicate n 0)), blkP rb 78 #[.slice a1 n c1, .slice a2 n c2, .int .i64 1, .int .i64 0, .int .i64 old, .int .i64 nw], blkP b8 78 #[.slice none 0 0, .slice none 0 0, .int .i64 0, .int .i64 0, .int .i64 0, .int .i64 0]] ++ (wdL c s ++ (rowP 29 1 (.slice (some g9) 5 cp) 5 (intC (tolds 5)) :: Z))) := H9
            have HH3 := Lib.hid H9
            clear H9 HH2
            have BW := HH3.out.blk 4 (b := rb) (t := 78) (c := #[.slice a1 n c1, .slice a2 n c2, .int .i64 1, .int .i64 0, .int .i64 old, .int .i64 nw]) rfl
            have qs := And.intro (BW.cell 0) (BW.cell 1)
            clear BW
            refine hK9.out _ _ (fun _ => qs) ?_
            clear hK9 K9
            try simp only [Act.put, List.setIfInBounds_toArray, List.set_cons_zero, List.set_cons_succ]
            refine AnyK.take (i := 9) (v := ?_) rfl (by kernel_rfl) (by kernel_rfl) (by kernel_rfl) (by kernel_rfl) (fun _ _ _ h => h) (Or.inl ⟨by rfl, ?_⟩) (by exact ⟨(HH3.out.blk 4 rfl).cell 0, (HH3.out.blk 4 rfl).cell 1⟩) ?_
            rotate_left
            focus
              intro w9 hSw
              try dsimp only at hSw
              go_simp
              try with_reducible rfl
            try simp only [Act.put, List.setIfInBounds_toArray, List.set_cons_zero, List.set_cons_succ]
            refine AnyK.one (i := 8) (by kernel_rfl) rfl (fun K9 hK9 => ?_)
            refine step_append_typed _ (by rfl) (.tmp 43) (.tmp 44) 35 (by rfl) 2 j0 _ 1 8 Try.underlying35 J0.out.1 J0.out.2.1 J0.out.2.2.1 J0.out.2.2.2 rfl (by decide) (.slice a2 n c2) n (intC (List.replicate n 0)) (by simp [Act.eval]) (HH3.out.row 3 rfl) (.slice (some ⟨b7, 0, none⟩) 1 1) 1 [.int .i64 0] (by simp [Act.eval]) (RdV.block (cs := #[.int .i64 0]) (t := 2) (HH3.out.blk 1 rfl) rfl (by decide)) (fun u hu => by simp at hu; subst hu; rfl) HL.out.1 HL.out.2 ?_
            intro a4 c4 w4 q4 grow4 hat4
            have H9 := HH3.out.growRow 3 rfl (Fr.refl _ _) q4 grow4 (fun g hg => (hat4 g hg).resolve_left (fun h => absurd h.1 (by decide)))
            clear q4 grow4 hat4
            have H9 : Heap w0 w4 ([blkP b3 29 #[.int .i64 (told j)], blkP b7 2 #[.int .i64 0], rowP 29 1 (.slice a3 (n + 1) c3) (n + 1) (intC ((psU set j).map told) ++ [.int .i64 (told j)]), rowP 2 1 (.slice a4 (n + 1) c4) (n + 1) (intC (List.replicate n 0) ++ [.int .i64 0]), blkP rb 78 #[.slice a1 n c1, .slice a2 n c2, .int .i64 1, .int .i64 0, .int .i64 old, .int .i64 nw], blkP b8 78 #[.slice none 0 0, .slice none 0 0, .int .i64 0, .int .i64 0, .int .i64 0, .int .i64 0]] ++ (wdL c s ++ (rowP 29 1 (.slice (some g9) 5 cp) 5 (intC (tolds 5)) :: Z))) := H9
            have HH4 := Lib.hid H9
            clear H9 HH3
            have BW := HH4.out.blk 4 (b := rb) (t := 78) (c := #[.slice a1 n c1, .slice a2 n c2, .int .i64 1, .int .i64 0, .int .i64 old, .int .i64 nw]) rfl
            have qs := And.intro (BW.cell 0) (BW.cell 1)
            clear BW
            refine hK9.out _ _ (fun _ => qs) ?_
            clear hK9 K9
            try simp only [Act.put, List.setIfInBounds_toArray, List.set_cons_zero, List.set_cons_succ]
            refine AnyK.phase (S' := fun _ => True) (ks' := []) (by kernel_rfl) ?_
            have B1 := HH4.out.blk 4 (b := rb) (t := 78) (c := #[.slice a1 n c1, .slice a2 n c2, .int .i64 1, .int .i64 0, .int .i64 old, .int .i64 nw]) rfl
            have e10 := B1.cell 0
            have f10 := B1.froz 0
            have e11 := B1.cell 1
            have f11 := B1.froz 1
            clear B1
            have H9 := (HH4.out.setCell 4 rfl 0 (.slice a3 (n + 1) c3)).setCell 4 rfl 1 (.slice a4 (n + 1) c4)
            have H9 : Heap w0 _ ([blkP b3 29 #[.int .i64 (told j)], blkP b7 2 #[.int .i64 0], rowP 29 1 (.slice a3 (n + 1) c3) (n + 1) (intC ((psU set j).map told) ++ [.int .i64 (told j)]), rowP 2 1 (.slice a4 (n + 1) c4) (n + 1) (intC (List.replicate n 0) ++ [.int .i64 0]), blkP rb 78 #[.slice a3 (n + 1) c3, .slice a4 (n + 1) c4, .int .i64 1, .int .i64 0, .int .i64 old, .int .i64 nw], blkP b8 78 #[.slice none 0 0, .slice none 0 0, .int .i64 0, .int .i64 0, .int .i64 0, .int .i64 0]] ++ (wdL c s ++ (rowP 29 1 (.slice (some g9) 5 cp) 5 (intC (tolds 5)) :: Z))) := H9
            have H9 := Lib.hid H9.tailP.tailP
            refine AnyK.one (i := 10) (by kernel_rfl) rfl (fun K9 hK9 => ?_)
            go_simp
            refine hK9.out _ _ (fun _ => trivial) ?_
            clear hK9 K9
            try simp only [Act.put, List.setIfInBounds_toArray, List.set_cons_zero, List.set_cons_succ]
            refine AnyK.take (i := 11) (v := ?_) rfl (by kernel_rfl) (by kernel_rfl) (by kernel_rfl) (by kernel_rfl) (fun _ _ _ h => h) (Or.inl ⟨by rfl, ?_⟩) (by exact trivial) ?_
            rotate_left
            focus
              intro w9 hSw
              try dsimp only at hSw
              go_simp
              try with_reducible rfl
            try simp only [Act.put, List.setIfInBounds_toArray, List.set_cons_zero, List.set_cons_succ]
            refine AnyK.one (i := 12) (by kernel_rfl) rfl (fun K9 hK9 => ?_)
            go_simp
            refine hK9.out _ _ (fun _ => trivial) ?_
            clear hK9 K9
            try simp only [Act.put, List.setIfInBounds_toArray, List.set_cons_zero, List.set_cons_succ]
            refine AnyK.done (by kernel_rfl) ?_ _
            refine NoPanic.normal ?_
            have HX := rvl_next HB.out trivial HP.out HN0.out.1 H9.out
            clear H9
            go_wp2_with fail
            exact ⟨⟨j + 1, by go_num, by omega, HX⟩, by simp [intOf]; omega⟩
      · have HX := Lib.hid (rvl_skip hb HL0.out)
        have hb1 : ¬ bits BinOp.and IntKind.u8 (set / 2 ^ j) 1 = 1 := fun h => hb (decide_eq_true h)
        clear hb
        obtain ⟨n, a1, c1, a2, c2, old, hn, ho1, ho2, H0⟩ := HL0.out
        obtain ⟨g9, ee, hcc, hat⟩ := (H0.row 8 (t := 29) (sz := 1) (n := 5) (v := .slice a 5 cp) (us := intC (tolds 5)) rfl).rdv.at (by omega)
        have ee : a = some g9 := by simpa using ee
        subst ee
        have y1 := hat j _ (tolds_get hlt)
        clear HL0 H0 hn ho1 ho2 hat hcc
        go_wp2_with fail
        exact ⟨⟨j + 1, by go_num, by omega, HX⟩, by simp [intOf]; omega⟩
    · have hj5 : j = 5 := by omega
      subst hj5
      obtain ⟨n, a1, c1, a2, c2, old, hn, ho1, ho2, H0⟩ := HL0.out
      have HO : Hid ((psU set 5).length = n ∧ old = 200 + 10 * ((rvSet set nw).hd : Int)) := Lib.hid ⟨hn, ho2 (by rw [← hn]; have := HR.out.2; cases h : psU set 5 with | nil => exact absurd h this | cons x l => simp)⟩
      clear HL0 hn ho1 ho2 hlt hj
      have HZ := H0.drew
      have q0 : World.cell? wr.drew ⟨c.wb, 1, none⟩ = some (.pointer (some ⟨c.rb, 0, none⟩)) ∧ World.cell? wr.drew ⟨rb, 0, none⟩ = some (.slice a1 n c1) ∧ World.cell? wr.drew ⟨rb, 1, none⟩ = some (.slice a2 n c2) ∧ World.cell? wr.drew ⟨rb, 2, none⟩ = some (.int .i64 1) ∧ World.cell? wr.drew ⟨rb, 3, none⟩ = some (.int .i64 0) ∧ World.cell? wr.drew ⟨rb, 4, none⟩ = some (.int .i64 old) ∧ World.cell? wr.drew ⟨rb, 5, none⟩ = some (.int .i64 nw) := ⟨(wdL_cells HZ.swapF).2.1, (HZ.blk 2 (b := rb) (t := 78) (c := #[.slice a1 n c1, .slice a2 n c2, .int .i64 1, .int .i64 0, .int .i64 old, .int .i64 nw]) rfl).cell 0, (HZ.blk 2 (b := rb) (t := 78) (c := #[.slice a1 n c1, .slice a2 n c2, .int .i64 1, .int .i64 0, .int .i64 old, .int .i64 nw]) rfl).cell 1, (HZ.blk 2 (b := rb) (t := 78) (c := #[.slice a1 n c1, .slice a2 n c2, .int .i64 1, .int .i64 0, .int .i64 old, .int .i64 nw]) rfl).cell 2, (HZ.blk 2 (b := rb) (t := 78) (c := #[.slice a1 n c1, .slice a2 n c2, .int .i64 1, .int .i64 0, .int .i64 old, .int .i64 nw]) rfl).cell 3, (HZ.blk 2 (b := rb) (t := 78) (c := #[.slice a1 n c1, .slice a2 n c2, .int .i64 1, .int .i64 0, .int .i64 old, .int .i64 nw]) rfl).cell 4, (HZ.blk 2 (b := rb) (t := 78) (c := #[.slice a1 n c1, .slice a2 n c2, .int .i64 1, .int .i64 0, .int .i64 old, .int .i64 nw]) rfl).cell 5⟩
      have hps : ((psU set 5).map told).length = n := by rw [List.length_map]; exact HO.out.1
      have hn5 : n ≤ 5 := by rw [← HO.out.1]; exact psU_len set 5
      have C := Make_h HZ.swapF 2 rfl ⟨(psU set 5).map told, List.replicate n 0, 1, 0, old, nw⟩ (.slice a1 n c1) (.slice a2 n c2) (by
        show RdV _ _ ((psU set 5).map told).length 1 _
        rw [hps]
        exact (HZ.row 0 rfl).rdv) (by
        show RdV _ _ (List.replicate n (0 : Int)).length 1 _
        rw [List.length_replicate]
        exact (HZ.row 1 rfl).rdv) (by show ((psU set 5).map told).length ≤ 1000000; rw [hps]; omega) (by show (List.replicate n (0 : Int)).length ≤ 1000000; rw [List.length_replicate]; omega)
      have hmk : makeRt ⟨(psU set 5).map told, List.replicate n 0, 1, 0, old, nw⟩ s.rt = (((s.rt.es.length : Int) + 1, true), ⟨s.rt.es ++ [rvE (rvSet set nw) 1 false], s.rt.most⟩) := by
        unfold makeRt
        rw [if_pos ⟨by show ((psU set 5).map told).length = (List.replicate n (0 : Int)).length; rw [hps, List.length_replicate], by show (0 : Int) ≤ 1; decide, HR.out.1⟩]
        have e1 : (rvSet set nw).ps.length = n := HO.out.1
        have e2 := HO.out.2
        unfold rvE
        rw [e1, ← e2]
        rfl
      rw [hmk] at C
      have C := Lib.hid C
      clear HZ hmk hps hn5 H0
      go_upto_region 10 with fail
      go_cut [13] (fun s13 wx => s13 = .int .i64 ((s.rt.es.length : Int) + 1) ∧ Hid (Heap w0 wx ((wdL c { s with rt := ⟨s.rt.es ++ [rvE (rvSet set nw) 1 false], s.rt.most⟩ } ++ (rowP 29 1 (.slice a 5 cp) 5 (intC (tolds 5)) :: Z)) ++ [rowP 29 1 (.slice a1 n c1) n (intC ((psU set 5).map told)), rowP 2 1 (.slice a2 n c2) n (intC (List.replicate n 0)), blkP rb 78 #[.slice a1 n c1, .slice a2 n c2, .int .i64 1, .int .i64 0, .int .i64 old, .int .i64 nw], blkP b8 78 #[.slice none 0 0, .slice none 0 0, .int .i64 0, .int .i64 0, .int .i64 0, .int .i64 0]])))
      case first =>
        refine wp_region_noPanic ?_
        refine AnyK.start (ks := [5, 6, 7, 8, 9, 10]) (S := fun w' => w'.cell? ⟨c.wb, 1, none⟩ = some (.pointer (some ⟨c.rb, 0, none⟩)) ∧ w'.cell? ⟨rb, 0, none⟩ = some (.slice a1 n c1) ∧ w'.cell? ⟨rb, 1, none⟩ = some (.slice a2 n c2) ∧ w'.cell? ⟨rb, 2, none⟩ = some (.int .i64 1) ∧ w'.cell? ⟨rb, 3, none⟩ = some (.int .i64 0) ∧ w'.cell? ⟨rb, 4, none⟩ = some (.int .i64 old) ∧ w'.cell? ⟨rb, 5, none⟩ = some (.int .i64 nw)) (by kernel_rfl) (by exact q0) (fun _ => ?_)
        refine AnyK.takeB (i := 0) (v := ?_) rfl (by kernel_rfl) (by kernel_rfl) (by kernel_rfl) (by kernel_rfl) (fun _ _ _ h => h) (Or.inl ⟨by rfl, ?_⟩) (by exact q0) ?_
        rotate_left
        focus
          intro w9 hSw
          try dsimp only at hSw
          go_simp
          try with_reducible rfl
        try simp only [Act.put, List.setIfInBounds_toArray, List.set_cons_zero, List.set_cons_succ]
        refine AnyK.takeB (i := 1) (v := ?_) rfl (by kernel_rfl) (by kernel_rfl) (by kernel_rfl) (by kernel_rfl) (fun _ _ _ h => h) (Or.inl ⟨by rfl, ?_⟩) (by exact q0) ?_
        rotate_left
        focus
          intro w9 hSw
          try dsimp only at hSw
          go_simp
          try with_reducible rfl
        try simp only [Act.put, List.setIfInBounds_toArray, List.set_cons_zero, List.set_cons_succ]
        refine AnyK.takeB (i := 2) (v := ?_) rfl (by kernel_rfl) (by kernel_rfl) (by kernel_rfl) (by kernel_rfl) (fun _ _ _ h => h) (Or.inl ⟨by rfl, ?_⟩) (by exact q0) ?_
        rotate_left
        focus
          intro w9 hSw
          try dsimp only at hSw
          go_simp
          try with_reducible rfl
        try simp only [Act.put, List.setIfInBounds_toArray, List.set_cons_zero, List.set_cons_succ]
        refine AnyK.takeB (i := 3) (v := ?_) rfl (by kernel_rfl) (by kernel_rfl) (by kernel_rfl) (by kernel_rfl) (fun _ _ _ h => h) (Or.inl ⟨by rfl, ?_⟩) (by exact q0) ?_
        rotate_left
        focus
          intro w9 hSw
          try dsimp only at hSw
          go_simp
          try with_reducible rfl
        try simp only [Act.put, List.setIfInBounds_toArray, List.set_cons_zero, List.set_cons_succ]
        refine AnyK.takeB (i := 4) (v := ?_) rfl (by kernel_rfl) (by kernel_rfl) (by kernel_rfl) (by kernel_rfl) (fun _ _ _ h => h) (Or.inl ⟨by rfl, ?_⟩) (by exact q0) ?_
        rotate_left
        focus
          intro w9 hSw
          try dsimp only at hSw
          go_simp
          try with_reducible rfl
        try simp only [Act.put, List.setIfInBounds_toArray, List.set_cons_zero, List.set_cons_succ]
        refine AnyK.one (i := 5) (by kernel_rfl) rfl (fun K9 hK9 => ?_)
        go_simp
        refine C.out.mono ?_
        rintro e y9 ⟨rfl, H9⟩
        have H9 := Lib.hid H9
        refine hK9.out _ _ (fun hx => absurd (by decide) hx) ?_
        clear hK9 K9
        try simp only [Act.put, List.setIfInBounds_toArray, List.set_cons_zero, List.set_cons_succ]
        refine AnyK.phase (S' := fun _ => True) (ks' := []) (by kernel_rfl) ?_
        refine AnyK.take (i := 6) (v := ?_) rfl (by kernel_rfl) (by kernel_rfl) (by kernel_rfl) (by kernel_rfl) (fun _ _ _ h => h) (Or.inl ⟨by rfl, ?_⟩) (by exact trivial) ?_
        rotate_left
        focus
          intro w9 hSw
          try dsimp only at hSw
          go_simp
          try with_reducible rfl
        try simp only [Act.put, List.setIfInBounds_toArray, List.set_cons_zero, List.set_cons_succ]
        refine AnyK.take (i := 7) (v := ?_) rfl (by kernel_rfl) (by kernel_rfl) (by kernel_rfl) (by kernel_rfl) (fun _ _ _ h => h) (Or.inl ⟨by rfl, ?_⟩) (by exact trivial) ?_
        rotate_left
        focus
          intro w9 hSw
          try dsimp only at hSw
          go_simp
          try with_reducible rfl
        try simp only [Act.put, List.setIfInBounds_toArray, List.set_cons_zero, List.set_cons_succ]
        refine AnyK.take (i := 8) (v := ?_) rfl (by kernel_rfl) (by kernel_rfl) (by kernel_rfl) (by kernel_rfl) (fun _ _ _ h => h) (Or.inl ⟨by rfl, ?_⟩) (by exact trivial) ?_
        rotate_left
        focus
          intro w9 hSw
          try dsimp only at hSw
          go_simp
          try with_reducible rfl
        try simp only [Act.put, List.setIfInBounds_toArray, List.set_cons_zero, List.set_cons_succ]
        refine AnyK.take (i := 9) (v := ?_) rfl (by kernel_rfl) (by kernel_rfl) (by kernel_rfl) (by kernel_rfl) (fun _ _ _ h => h) (Or.inl ⟨by rfl, ?_⟩) (by exact trivial) ?_
        rotate_left
        focus
          intro w9 hSw
          try dsimp only at hSw
          go_simp
          try with_reducible rfl
        try simp only [Act.put, List.setIfInBounds_toArray, List.set_cons_zero, List.set_cons_succ]
        refine AnyK.take (i := 10) (v := ?_) rfl (by kernel_rfl) (by kernel_rfl) (by kernel_rfl) (by kernel_rfl) (fun _ _ _ h => h) (Or.inl ⟨by rfl, ?_⟩) (by exact trivial) ?_
        rotate_left
        focus
          intro w9 hSw
          try dsimp only at hSw
          go_simp
          try with_reducible rfl
        try simp only [Act.put, List.setIfInBounds_toArray, List.set_cons_zero, List.set_cons_succ]
        refine AnyK.done (by kernel_rfl) ?_ _
        refine NoPanic.normal ?_
        go_wp2_with fail
        go_meet
        exact ⟨rfl, H9⟩

      case rest =>
        obtain ⟨rfl, HH⟩ := hcut
        clear q0 C
        rename World => w4
        have H5 := HH.out.swapF
        have BR := H5.blk 2 (b := rb) (t := 78) (c := #[.slice a1 n c1, .slice a2 n c2, .int .i64 1, .int .i64 0, .int .i64 old, .int .i64 nw]) rfl
        have d0 := BR.cell 0
        have d1 := BR.cell 1
        have d2 := BR.cell 2
        have d3 := BR.cell 3
        have d4 := BR.cell 4
        have d5 := BR.cell 5
        have C2 := H5.blk 3 (b := b8) (t := 78) (c := #[.slice none 0 0, .slice none 0 0, .int .i64 0, .int .i64 0, .int .i64 0, .int .i64 0]) rfl
        have o0 := C2.cell 0
        have o1 := C2.cell 1
        have o2 := C2.cell 2
        have o3 := C2.cell 3
        have o4 := C2.cell 4
        have o5 := C2.cell 5
        have p0 := C2.froz 0
        have p1 := C2.froz 1
        have p2 := C2.froz 2
        have p3 := C2.froz 3
        have p4 := C2.froz 4
        have p5 := C2.froz 5
        have H6 := Lib.hid (((((((H5.setCell 3 rfl 0 (.slice a1 n c1)).setCell 3 rfl 1 (.slice a2 n c2)).setCell 3 rfl 2 (.int .i64 1)).setCell 3 rfl 3 (.int .i64 0)).setCell 3 rfl 4 (.int .i64 old)).setCell 3 rfl 5 (.int .i64 nw)))
        clear H5 BR C2 HH
        go_wp2_with fail
        generalize (((((w4.setCell ⟨b8, 0, none⟩ (.slice a1 n c1)).setCell ⟨b8, 1, none⟩ (.slice a2 n c2)).setCell ⟨b8, 2, none⟩ (.int .i64 1)).setCell ⟨b8, 3, none⟩ (.int .i64 0)).setCell ⟨b8, 4, none⟩ (.int .i64 old)).setCell ⟨b8, 5, none⟩ (.int .i64 nw) = W5 at *
        have H7 : Heap w0 W5 ([rowP 29 1 (.slice a1 n c1) n (intC ((psU set 5).map told)), rowP 2 1 (.slice a2 n c2) n (intC (List.replicate n 0)), blkP rb 78 #[.slice a1 n c1, .slice a2 n c2, .int .i64 1, .int .i64 0, .int .i64 old, .int .i64 nw], blkP b8 78 #[.slice a1 n c1, .slice a2 n c2, .int .i64 1, .int .i64 0, .int .i64 old, .int .i64 nw]] ++ (wdL c { s with rt := ⟨s.rt.es ++ [rvE (rvSet set nw) 1 false], s.rt.most⟩ } ++ (rowP 29 1 (.slice a 5 cp) 5 (intC (tolds 5)) :: Z))) := H6.out
        have B5 := H7.blk 3 (b := b8) (t := 78) (c := #[.slice a1 n c1, .slice a2 n c2, .int .i64 1, .int .i64 0, .int .i64 old, .int .i64 nw]) rfl
        clear d0 d1 d2 d3 d4 d5 o0 o1 o2 o3 o4 o5 p0 p1 p2 p3 p4 p5
        have p0 := B5.cell 0
        have p1 := B5.cell 1
        have p2 := B5.cell 2
        have p3 := B5.cell 3
        have p4 := B5.cell 4
        have p5 := B5.cell 5
        simp at p0 p1 p2 p3 p4 p5
        have e1 := HO.out.1
        have e2 := HO.out.2
        subst e1 e2
        refine bodyPost_ret (v := .tuple #[.agg #[.slice a1 (psU set 5).length c1, .slice a2 (psU set 5).length c2, .int .i64 1, .int .i64 0, .int .i64 (200 + 10 * ((rvSet set nw).hd : Int)), .int .i64 nw], .int .i64 ((s.rt.es.length : Int) + 1)]) (by simp [results, Try.results53, go_sem, p0, p1, p2, p3, p4, p5]) rfl ⟨a1, c1, a2, c2, rfl, ?_⟩
        exact Heap.dropX (X := [_, _]) (Y := [_, _]) H7.swapF
end Go.Proofs.Ythkohomogknddaa
