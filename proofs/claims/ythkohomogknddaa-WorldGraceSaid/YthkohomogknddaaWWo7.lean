/- WorldGrace. No condition but that what is handed in can be read. -/
import Derived.Test.YthkohomogknddaaGrc
import Derived.Test.YthkohomogknddaaWWo1
import Derived.Deep.DeepCutAuto
import Derived.Deep.CutRange
namespace Go.Proofs.Ythkohomogknddaa
open Go Go.RowKit
set_option linter.unusedVariables false
set_option linter.unusedSimpArgs false
set_option maxRecDepth 100000
def grW (n b me : Nat) : Wkr := ⟨[], b, (me : Nat), 28, #[], #[], begEndP (me : Nat) n⟩
theorem grW_does {c : Wc} {n : Nat} {mes : Nat → Nat} {cur : Nat → Option Nat} {sn : List Int} {w0 : World} (b me : Nat) : (grW n b me).does c (grG n mes cur sn) w0 :=
  ⟨fun K0 B M hM => wgr_does (wdPl_is c (K0 ++ (grW n b me).K c) B (b + 3)) hM, fun _ _ => rfl⟩
def ptrV (ws : List Wkr) (o : Option Nat) : Value := match o with
  | none => .pointer none
  | some j => match ws[j]? with
    | some x => .pointer (some ⟨x.b + 3, 0, none⟩)
    | none => .pointer none
def lA (n : Nat) (cur : Nat → Option Nat) (ws : List Wkr) : Array Value := ((List.range n).map fun i => ptrV ws (cur i)).toArray
def snA (sn : List Int) : Array Value := (sn.map (Value.int .i64)).toArray
def curU (cur : Nat → Option Nat) (j me : Nat) : Nat → Option Nat := fun i => if i = me then some j else cur i
def mesU (mes : Nat → Nat) (j me : Nat) : Nat → Nat := fun i => if i = j then me else mes i
/-- All the threads, and the two rows that speak of them. -/
structure GrS (n : Nat) (c : Wc) (bl bs : Nat) (w0 w : World) (N : Nat) (ws : List Wkr) (Ts : List Th) (X : List Piece) (mes : Nat → Nat) (cur : Nat → Option Nat) (sn : List Int) (s : Wd) : Prop where
  sq : Squad (grG n mes cur sn) c w0 ws [blkP bl 38 (lA n cur ws), blkP bs 2 (snA sn)] w N s Ts X
  sl : sn.length = n
  hw : ∀ j x, ws[j]? = some x → ∃ b, x = grW n b (mes j)
  hc : ∀ i j, i < n → cur i = some j → j < ws.length ∧ mes j = i
section
variable {n bl bs N : Nat} {c : Wc} {w0 w : World} {ws : List Wkr} {Ts : List Th} {X : List Piece} {mes : Nat → Nat} {cur : Nat → Option Nat} {sn : List Int} {s : Wd}
theorem lA_get {i : Nat} (h : i < n) : (lA n cur ws)[i]? = some (ptrV ws (cur i)) := by simp [lA, h]
theorem GrS.lcell (h : GrS n c bl bs w0 w N ws Ts X mes cur sn s) {i : Nat} (hi : i < n) : w.cell? ⟨bl, i, none⟩ = some (ptrV ws (cur i)) := by
  rw [(h.sq.heap.blk 4 (b := bl) (t := 38) (c := lA n cur ws) rfl).cell i]; exact lA_get hi
theorem GrS.lfroz (h : GrS n c bl bs w0 w N ws Ts X mes cur sn s) (i : Nat) : w.frozen? ⟨bl, i, none⟩ = false := (h.sq.heap.blk 4 (b := bl) (t := 38) (c := lA n cur ws) rfl).froz i
theorem GrS.scell (h : GrS n c bl bs w0 w N ws Ts X mes cur sn s) {i : Nat} (hi : i < n) : w.cell? ⟨bs, i, none⟩ = some (.int .i64 (sn.getD i 0)) := by
  rw [(h.sq.heap.blk 5 (b := bs) (t := 2) (c := snA sn) rfl).cell i]
  simp [snA, List.getD_eq_getElem?_getD, List.getElem?_eq_getElem (show i < sn.length by rw [h.sl]; exact hi)]
theorem GrS.sfroz (h : GrS n c bl bs w0 w N ws Ts X mes cur sn s) (i : Nat) : w.frozen? ⟨bs, i, none⟩ = false := (h.sq.heap.blk 5 (b := bs) (t := 2) (c := snA sn) rfl).froz i
theorem GrS.drewN (h : GrS n c bl bs w0 w N ws Ts X mes cur sn s) (m : Nat) : GrS n c bl bs w0 (w.drewN m) N ws Ts X mes cur sn s := ⟨h.sq.same (h.sq.heap.drewN m), h.sl, h.hw, h.hc⟩
theorem GrS.wcells (h : GrS n c bl bs w0 w N ws Ts X mes cur sn s) : w.cell? ⟨c.wb, 2, none⟩ = some (.pointer (some ⟨c.eb, 0, none⟩)) := by
  have := h.sq.heap
  rw [List.append_assoc] at this
  exact (wdL_cells this).2.2.1
theorem GrS.heap (h : GrS n c bl bs w0 w N ws Ts X mes cur sn s) : ∃ Z, Heap w0 w (wdL c s ++ Z) := ⟨_, by have := h.sq.heap; rw [List.append_assoc] at this; exact this⟩
theorem ptrV_more (h : ∀ j, cur 0 = some j → True) {i j : Nat} {x : Wkr} (hj : ∀ j, cur i = some j → j < ws.length) : ptrV (ws ++ [x]) (cur i) = ptrV ws (cur i) := by
  unfold ptrV
  cases hc : cur i with
  | none => rfl
  | some j => dsimp only; rw [List.getElem?_append_left (hj j hc)]
theorem lA_more {me : Nat} {x : Wkr} (hme : me < n) (hc : ∀ i j, i < n → cur i = some j → j < ws.length) : (lA n cur ws).setIfInBounds me (.pointer (some ⟨x.b + 3, 0, none⟩)) = lA n (curU cur ws.length me) (ws ++ [x]) := by
  unfold lA
  rw [List.setIfInBounds_toArray]
  congr 1
  apply List.ext_getElem?
  intro i
  rw [List.getElem?_set]
  simp only [List.length_map, List.length_range, List.getElem?_map]
  by_cases hi : i < n
  · rw [List.getElem?_range hi]
    by_cases e : me = i
    · subst e
      rw [if_pos rfl, if_pos hi]
      simp [curU, ptrV]
    · rw [if_neg e]
      simp only [Option.map_some, curU, if_neg (Ne.symm e)]
      rw [ptrV_more (i := i) (j := i) (fun _ _ => trivial) (fun j hj => hc i j hi hj)]
  · rw [List.getElem?_eq_none (by simp; omega)]
    rw [if_neg (fun (e : me = i) => hi (by rw [← e]; exact hme))]
    rfl
/-- One more thread is begun. -/
theorem gr_start (h : GrS n c bl bs w0 w N ws Ts X mes cur sn s) {me b : Nat} {w' : World} (hme : me < n) (hfree : cur me = none ∨ ∃ j T, cur me = some j ∧ Ts[j]? = some T ∧ T.done = true)
    (hh : Heap w0 w' (wdL c s ++ ([blkP bl 38 (lA n cur ws), blkP bs 2 (snA sn)] ++ allG c ws Ts) ++ X ++ (stB c.wb (me : Nat) (.func (.func 28) #[] #[]) b ++ [thP (b + 3) (newTh (stV b))]))) :
    GrS n c bl bs w0 (w'.setCell ⟨bl, me, none⟩ (.pointer (some ⟨b + 3, 0, none⟩))) N (ws ++ [grW n b me]) (Ts ++ [newTh (stV b)]) X (mesU mes ws.length me) (curU cur ws.length me) sn s := by
  have hI : GrI n cur sn s := h.sq.inv
  have hl := h.sq.len
  have hG : stB c.wb (me : Nat) (.func (.func 28) #[] #[]) b ++ [thP (b + 3) (newTh (stV b))] = (grW n b me).G c (newTh (stV b)) := rfl
  rw [hG] at hh
  have h1 := hh.swapEnd
  have h2 : Heap w0 w' (wdL c s ++ ([blkP bl 38 (lA n cur ws), blkP bs 2 (snA sn)] ++ allG c (ws ++ [grW n b me]) (Ts ++ [newTh (stV b)])) ++ X) := by
    rw [allG_snoc c _ _ ws Ts hl.symm]
    simpa only [List.append_assoc] using h1
  have h3 := h2.setCell 4 rfl me (.pointer (some ⟨b + 3, 0, none⟩))
  have e9 : (lA n cur ws).setIfInBounds me (.pointer (some ⟨b + 3, 0, none⟩)) = _ := lA_more (x := grW n b me) hme (fun i j hi hj => (h.hc i j hi hj).1)
  rw [e9] at h3
  have hfree' : sd s me = -1 := by
    rcases hfree with hf | ⟨j, T, hj, hT, hd⟩
    · exact hI.none me hme hf
    · obtain ⟨hjl, hm⟩ := h.hc me j hme hj
      obtain ⟨x, hx⟩ : ∃ x, ws[j]? = some x := ⟨_, List.getElem?_eq_getElem hjl⟩
      obtain ⟨v, a, cp, _, _, hD, _⟩ := (h.sq.ths j x T hx hT).over hd
      have hD : cur (mes j) = some j → sd s (mes j) = -1 := hD
      rw [hm] at hD
      exact hD hj
  refine ⟨⟨h3, by simp [hl], (⟨hI.len, hI.few, hI.limbo, hI.pos, hI.ann, fun i hi hc => ?_⟩ : GrI n _ sn s), h.sq.ok, fun j x T hx hT => ?_⟩, h.sl, fun j x hx => ?_, fun i j hi hj => ?_⟩
  · unfold curU at hc
    by_cases e : i = me
    · rw [if_pos e] at hc; simp at hc
    · rw [if_neg e] at hc; exact hI.none i hi hc
  · rcases Nat.lt_or_ge j ws.length with hj | hj
    · rw [List.getElem?_append_left hj] at hx
      rw [List.getElem?_append_left (by omega)] at hT
      have q := h.sq.ths j x T hx hT
      have hmj : mesU mes ws.length me j = mes j := if_neg (by omega)
      refine ⟨q.work, q.inn, fun hd => ?_, fun hd => ?_⟩
      · obtain ⟨⟨p1, p2, p3, p, p4, p5⟩, p6⟩ := q.goes hd
        refine ⟨?_, p6⟩
        show mesU mes ws.length me j < n ∧ curU cur ws.length me (mesU mes ws.length me j) = some j ∧ _
        rw [hmj]
        refine ⟨p1, ?_, p3, p, p4, p5⟩
        unfold curU
        by_cases e : mes j = me
        · rcases hfree with hf | ⟨j', T', hj', hT', hd'⟩
          · rw [e, hf] at p2; simp at p2
          · rw [e, hj'] at p2
            injection p2 with p2
            subst p2
            rw [hT] at hT'
            injection hT' with hT'
            subst hT'
            rw [hd] at hd'
            simp at hd'
        · rw [if_neg e]; exact p2
      · obtain ⟨v, a, cp, q1, q2, q3, q4⟩ := q.over hd
        refine ⟨v, a, cp, q1, q2, ?_, q4⟩
        show curU cur ws.length me (mesU mes ws.length me j) = some j → sd s (mesU mes ws.length me j) = -1
        rw [hmj]
        intro hcu
        unfold curU at hcu
        by_cases e : mes j = me
        · rw [if_pos e] at hcu
          injection hcu with hcu
          omega
        · rw [if_neg e] at hcu
          exact q3 hcu
    · rw [List.getElem?_append_right hj] at hx
      rw [List.getElem?_append_right (by omega), hl] at hT
      cases hk : j - ws.length with
      | succ k => rw [hk] at hx; simp at hx
      | zero =>
        rw [hk] at hx hT
        simp at hx hT
        subst hx hT
        have hjl : j = ws.length := by omega
        refine ⟨rfl, rfl, fun _ => ⟨?_, by simp [newTh]⟩, fun hd => by simp [newTh] at hd⟩
        show mesU mes ws.length me j < n ∧ curU cur ws.length me (mesU mes ws.length me j) = some j ∧ _
        have hmj : mesU mes ws.length me j = me := if_pos hjl
        rw [hmj]
        refine ⟨hme, by unfold curU; rw [if_pos rfl, hjl], by simp [newTh], .N0, rfl, hfree'⟩
  · rcases Nat.lt_or_ge j ws.length with hj | hj
    · rw [List.getElem?_append_left hj] at hx
      rw [show mesU mes ws.length me j = mes j from if_neg (by omega)]
      exact h.hw j x hx
    · rw [List.getElem?_append_right hj] at hx
      cases hk : j - ws.length with
      | succ k => rw [hk] at hx; simp at hx
      | zero =>
        rw [hk] at hx
        simp at hx
        subst hx
        exact ⟨b, by rw [show mesU mes ws.length me j = me from if_pos (by omega)]⟩
  · unfold curU at hj
    by_cases e : i = me
    · rw [if_pos e] at hj
      injection hj with hj
      subst hj
      exact ⟨by simp, by rw [show mesU mes ws.length me ws.length = me from if_pos rfl, e]⟩
    · rw [if_neg e] at hj
      obtain ⟨h1, h2⟩ := h.hc i j hi hj
      exact ⟨by simp; omega, by rw [show mesU mes ws.length me j = mes j from if_neg (by omega)]; exact h2⟩
/-- One Step of the thread that is at work. -/
theorem gr_step (h : GrS n c bl bs w0 w N ws Ts X mes cur sn s) {me j : Nat} {x : Wkr} {T : Th} (hme : me < n) (hcur : cur me = some j) (hx : ws[j]? = some x) (hT : Ts[j]? = some T) (hd : T.done = false) (hN : N ≤ 49000) :
    Calls Try.prog 29 #[.pointer (some ⟨x.b + 3, 0, none⟩)] w fun e w' => ∃ b s' Ts' Y, e = .returned (.bool b) ∧
      Squad (grG n mes cur (if sd s me = -1 then sn.set me s.ep.now else sn)) c w0 ws [blkP bl 38 (lA n cur ws), blkP bs 2 (snA sn)] w' (N + 1) s' Ts' (X ++ Y) := by
  have hI : GrI n cur sn s := h.sq.inv
  have hset : ∀ i, (sn.set me s.ep.now).getD i 0 = if me = i then s.ep.now else sn.getD i 0 := fun i => by
    simp only [List.getD_eq_getElem?_getD, List.getElem?_set]
    by_cases e : me = i
    · subst e; rw [if_pos rfl, if_pos (by rw [h.sl]; exact hme), if_pos rfl]; rfl
    · rw [if_neg e, if_neg e]
  have h2 : Squad (grG n mes cur (if sd s me = -1 then sn.set me s.ep.now else sn)) c w0 ws [blkP bl 38 (lA n cur ws), blkP bs 2 (snA sn)] w N s Ts X := by
    refine gr_later h.sq (fun i hi he => ?_)
    have := hI.ann i hi he
    split
    · rename_i h1
      rw [hset, if_neg (fun (e : me = i) => he (by rw [← e]; exact h1))]
      omega
    · omega
  obtain ⟨hjl, hm⟩ := h.hc me j hme hcur
  obtain ⟨b, hb⟩ := h.hw j x hx
  rw [hm] at hb
  have hp : x.p = begEndP ((mes j : Nat) : Int) n := by rw [hb, hm]; rfl
  refine (Step_one h2 hx hT (fun _ hP => ?_) (by rw [hb]; exact grW_does b me) hN).mono ?_
  · rw [hp]
    refine gr_move h2.inv h.sq.ok hN (fun h1 => ?_) hP
    rw [hm] at h1 ⊢
    rw [if_pos h1, hset, if_pos rfl]
  · rintro e w' ⟨b, s', T', Y, rfl, hs, _, _⟩
    exact ⟨b, s', _, Y, rfl, hs⟩
/-- The times are told anew. -/
theorem gr_tell {me : Nat} {s' : Wd} {w' : World} {Ts' : List Th} {Y : List Piece} (sl : sn.length = n) (hw : ∀ j x, ws[j]? = some x → ∃ b, x = grW n b (mes j)) (hc : ∀ i j, i < n → cur i = some j → j < ws.length ∧ mes j = i) (hme : me < n)
    (h : Squad (grG n mes cur (if sd s me = -1 then sn.set me s.ep.now else sn)) c w0 ws [blkP bl 38 (lA n cur ws), blkP bs 2 (snA sn)] w' (N + 1) s' Ts' Y) :
    (¬ (sd s me = -1 ∧ sd s' me ≠ -1) → GrS n c bl bs w0 w' (N + 1) ws Ts' Y mes cur sn s') ∧ (sd s me = -1 → sd s' me ≠ -1 → GrS n c bl bs w0 (w'.setCell ⟨bs, me, none⟩ (.int .i64 s'.ep.now)) (N + 1) ws Ts' Y mes cur (sn.set me s'.ep.now) s') := by
  have hI : GrI n cur (if sd s me = -1 then sn.set me s.ep.now else sn) s' := h.inv
  have hset : ∀ (u : Int) i, (sn.set me u).getD i 0 = if me = i then u else sn.getD i 0 := fun u i => by
    simp only [List.getD_eq_getElem?_getD, List.getElem?_set]
    by_cases e : me = i
    · subst e; rw [if_pos rfl, if_pos (by rw [sl]; exact hme), if_pos rfl]; rfl
    · rw [if_neg e, if_neg e]
  refine ⟨fun hn => ⟨gr_later h (fun i hi he => ?_), sl, hw, hc⟩, fun h1 h2 => ⟨?_, by rw [List.length_set]; exact sl, hw, hc⟩⟩
  · have := hI.ann i hi he
    by_cases h1 : sd s me = -1
    · rw [if_pos h1, hset] at this ⊢
      have hne : ¬ me = i := fun e => hn ⟨h1, by rw [e]; exact he⟩
      rw [if_neg hne] at this ⊢
      omega
    · rw [if_neg h1] at this ⊢
      omega
  · have h3 := gr_later (b := sn.set me s'.ep.now) h (fun i hi he => by
      have := hI.ann i hi he
      rw [if_pos h1, hset] at this ⊢
      rw [hset]
      by_cases e : me = i
      · rw [if_pos e] at this ⊢; rw [if_pos e]; omega
      · rw [if_neg e] at this ⊢; rw [if_neg e]; omega)
    have h4 := h3.heap.setCell 5 rfl me (.int .i64 s'.ep.now)
    refine ⟨?_, h3.len, h3.inv, h3.ok, h3.ths⟩
    have e : (snA sn).setIfInBounds me (.int .i64 s'.ep.now) = snA (sn.set me s'.ep.now) := by simp [snA, List.map_set]
    rw [e] at h4
    exact h4
end
set_option maxHeartbeats 16000000 in
theorem WorldGrace_walk (threads : Int) (hth : 0 ≤ threads ∧ threads ≤ 255) (v1 : Value) (xs : List Int) (w : World) (R1 : RdV w v1 xs.length 1 (xs.map (Value.int .u8))) (hx : ∀ n ∈ xs, (Lit.int .u8 n).wf = true) :
    Calls Try.prog 5 #[.int .u8 threads, v1] w fun e w' => e = .returned (.bool true) ∧ Below w.heap.size w w' := by
  have hm0 := R1.short
  unfold maxLen at hm0
  obtain ⟨pa, pc, rfl⟩ := R1.len
  have HR := Lib.hid R1
  have HX := Lib.hid (fun n hn => bounds_u8 (hx n hn))
  clear R1 hx
  obtain ⟨t0, t1⟩ := hth
  go_enter Try.func5, Try.ntmps5
  go_wp2_with fail
  refine (Awake_calls w).mono ?_
  rintro e w1 ⟨rfl, F1⟩
  by_cases hn1 : 150 < xs.length
  · go_wp2_with fail
    go_ret
    exact ⟨rfl, F1.below (Nat.le_refl _) (fun _ x => x.elim)⟩
  obtain ⟨n, hn⟩ : ∃ n : Nat, 1 + threads % 4 = (n : Int) := ⟨(1 + threads % 4).toNat, by omega⟩
  have hn4 : 1 ≤ n ∧ n ≤ 4 := by omega
  have CS := Lib.hid (some_h ((Heap.start w).go F1) n 5 (by omega) (by omega))
  have mk1 : ∀ w, (Instr.makeSlice 48 (.int .i64 (n : Int)) (.int .i64 (n : Int))).run Try.prog w = .ok (.slice (some ⟨w.heap.size, 0, none⟩) n n) (w.alloc (.cells (lA n (fun _ => none) []) 38)) := by
    rcases (by omega : n = 1 ∨ n = 2 ∨ n = 3 ∨ n = 4) with rfl | rfl | rfl | rfl <;> (intro w; kernel_rfl)
  have mk2 : ∀ w, (Instr.makeSlice 35 (.int .i64 (n : Int)) (.int .i64 (n : Int))).run Try.prog w = .ok (.slice (some ⟨w.heap.size, 0, none⟩) n n) (w.alloc (.cells (snA (List.replicate n 0)) 2)) := by
    rcases (by omega : n = 1 ∨ n = 2 ∨ n = 3 ∨ n = 4) with rfl | rfl | rfl | rfl <;> (intro w; kernel_rfl)
  clear F1
  go_upto_region 6 with fail
  try simp only [hn]
  clear hn t0 t1
  obtain ⟨n1', n4'⟩ := hn4
  have HN4 := Lib.hid (And.intro n1' n4')
  go_wp2_with fail
  refine CS.out.mono ?_
  rintro e w2 ⟨c, _, rfl, H⟩
  clear CS
  have H3 : Heap w ((w2.alloc (.cells (lA n (fun _ => none) []) 38)).alloc (.cells (snA (List.replicate n 0)) 2)) (wdL c (wd0 n 5 20) ++ [blkP w2.heap.size 38 (lA n (fun _ => none) []), blkP (w2.heap.size + 1) 2 (snA (List.replicate n 0))]) := by
    have := (H.alloc 38 (lA n (fun _ => none) [])).alloc 2 (snA (List.replicate n 0))
    rw [show (w2.alloc (.cells (lA n (fun _ => none) []) 38)).heap.size = w2.heap.size + 1 by simp] at this
    simpa [List.append_assoc] using this
  have HG : Hid (∃ bl bs W, bl = w2.heap.size ∧ bs = bl + 1 ∧ W = (w2.alloc (.cells (lA n (fun _ => none) []) 38)).alloc (.cells (snA (List.replicate n 0)) 2) ∧ (∃ ws Ts X mes cur sn s, GrS n c bl bs w W 5 ws Ts X mes cur sn s)) := Lib.hid ⟨_, _, _, rfl, rfl, rfl, [], [], [], fun _ => 0, fun _ => none, List.replicate n 0, wd0 n 5 20, ⟨by simpa [allG] using H3, rfl, (⟨by simp [wd0], by have := HN4.out; omega, fun l hl => by simp [wd0] at hl; exact hl.2, by show (0 : Int) ≤ 0; omega, fun i hi he => absurd (by simp [sd, wd0, List.getD_eq_getElem?_getD, hi]) he, fun i hi _ => by simp [sd, wd0, List.getD_eq_getElem?_getD, hi]⟩ : GrI n _ _ _), ok_new (by omega) |>.up (by omega), fun i x T hx => by simp at hx⟩, by simp, fun j x hx => by simp at hx, fun i j hi hj => by simp at hj⟩
  clear H H3
  obtain ⟨bl, bs, W, hbl, hbs, hW, HG0⟩ := HG.out
  have HG := Lib.hid HG0
  clear HG0
  go_upto_region 9 with fail
  rw [← hbl, ← hbs, ← hW]
  clear hbl hbs hW mk1 mk2
  go_wp2_with fail
  go_loopw [31] (fun q wr => ∃ k : Nat, q = .int .i64 (k : Nat) ∧ k ≤ xs.length ∧ Hid (∃ ws Ts X mes cur sn s, GrS n c bl bs w wr (5 + k) ws Ts X mes cur sn s)) (fun q _ => xs.length - (intOf q).toNat)
  case atStart => exact ⟨0, rfl, Nat.zero_le _, HG⟩
  case round =>
  clear HG
  obtain ⟨k, rfl, hk, HG⟩ := hrel
  by_cases hlt : k < xs.length
  · obtain ⟨ws, Ts, X, mes, cur, sn, s, g⟩ := HG.out
    clear HG
    obtain ⟨a1, ea, hc1, hat1⟩ := (HR.out.fr g.sq.heap.fr (fun _ _ _ x => x)).at (by omega)
    have ea : pa = some a1 := by simpa using ea
    obtain ⟨y, hyk⟩ : ∃ y, xs[k]? = some y := ⟨_, List.getElem?_eq_getElem hlt⟩
    have y1 : World.cell? _ (a1.add k) = some (.int .u8 y) := hat1 k (.int .u8 y) (by simp [hyk])
    obtain ⟨yl, yh⟩ := HX.out y (List.mem_of_getElem? hyk)
    subst ea
    obtain ⟨i, hi⟩ : ∃ i : Nat, y % (n : Int) = (i : Int) := ⟨(y % (n : Int)).toNat, by have := Int.emod_nonneg y (b := (n : Int)) (by omega); omega⟩
    have hin : i < n := by have := Int.emod_lt_of_pos y (b := (n : Int)) (by omega); omega
    have hnz : (n : Int) ≠ 0 := by omega
    have hii : (i : Int) < (n : Int) := by omega
    have GG := Lib.hid g
    clear hat1 hc1 hyk g
    go_upto_region 12 with fail
    clear y1
    go_upto_region 13 with fail
    try simp only [hi]
    clear hi yl yh
    have L1 := GG.out.lcell hin
    go_cut [50] from 39 to 50 (fun s50 wx => ∃ b : Bool, s50 = .bool b ∧ Hid (∃ ws Ts X mes cur sn s, GrS n c bl bs w wx (5 + k) ws Ts X mes cur sn s ∧ (b = true → cur i = none ∨ ∃ j T, cur i = some j ∧ Ts[j]? = some T ∧ T.done = true) ∧ (b = false → ∃ j x T, cur i = some j ∧ ws[j]? = some x ∧ Ts[j]? = some T ∧ T.done = false)))
    case first =>
      cases hcu : cur i with
      | none =>
        have HQ : Hid (∃ ws Ts X mes cur sn s, GrS n c bl bs w wr (5 + k) ws Ts X mes cur sn s ∧ cur i = none) := Lib.hid ⟨ws, Ts, X, mes, cur, sn, s, GG.out, hcu⟩
        rw [hcu, show ptrV ws none = .pointer none from rfl] at L1
        have hnn : (none : Option Addr).isNone = true := rfl
        clear hcu GG
        go_wp2_with fail
        go_meet
        obtain ⟨ws, Ts, X, mes, cur, sn, s, g1, g2⟩ := HQ.out
        exact ⟨true, rfl, Lib.hid ⟨ws, Ts, X, mes, cur, sn, s, g1, fun _ => .inl g2, fun h => by simp at h⟩⟩
      | some j =>
        obtain ⟨hjl, hm⟩ := GG.out.hc i j hin hcu
        obtain ⟨x, hx⟩ : ∃ x, ws[j]? = some x := ⟨_, List.getElem?_eq_getElem hjl⟩
        obtain ⟨T, hT⟩ := GG.out.sq.get hx
        have K := GG.out.sq.ths j x T hx hT
        obtain ⟨kt, hkt⟩ := GG.out.sq.th hx hT
        have CD := Lib.hid (Done_h GG.out.sq.heap kt hkt _ _ _ K.work)
        rw [hcu, show ptrV ws (some j) = .pointer (some ⟨x.b + 3, 0, none⟩) by unfold ptrV; dsimp only; rw [hx]] at L1
        have HQ : Hid (∃ ws Ts X mes cur sn s, GrS n c bl bs w wr (5 + k) ws Ts X mes cur sn s ∧ (T.done = true → cur i = none ∨ ∃ j T, cur i = some j ∧ Ts[j]? = some T ∧ T.done = true) ∧ (T.done = false → ∃ j x T, cur i = some j ∧ ws[j]? = some x ∧ Ts[j]? = some T ∧ T.done = false)) := Lib.hid ⟨ws, Ts, X, mes, cur, sn, s, GG.out, fun h => .inr ⟨j, T, hcu, hT, h⟩, fun h => ⟨j, x, T, hcu, hx, hT, h⟩⟩
        generalize T.done = dd at CD HQ
        clear K hkt hcu hx hT hjl hm GG
        go_wp2_with fail
        refine CD.out.mono ?_
        rintro e w' ⟨rfl, hw⟩
        have hw := hw.symm
        subst hw
        clear CD
        go_wp2_with fail
        go_meet
        exact ⟨dd, rfl, HQ⟩
    case rest =>
    obtain ⟨b, rfl, HB⟩ := hcut
    clear GG L1 ws Ts X mes cur sn s
    rename World => wA
    rename ∀ (a : Act) (w : World), Code.wp Try.prog _ _ a w → _ => hK8
    refine hK8 _ _ ?_
    clear hK8
    go_cut [] from 51 to 56 (fun wx => Hid (∃ ws Ts X mes cur sn s j x T, GrS n c bl bs w wx (5 + k) ws Ts X mes cur sn s ∧ cur i = some j ∧ ws[j]? = some x ∧ Ts[j]? = some T ∧ T.done = false))
    case first =>
      obtain ⟨ws, Ts, X, mes, cur, sn, s, g, h1, h2⟩ := HB.out
      clear HB
      cases b with
      | false =>
        obtain ⟨j, x, T, h2⟩ := h2 rfl
        have HQ : Hid (∃ ws Ts X mes cur sn s j x T, GrS n c bl bs w wA (5 + k) ws Ts X mes cur sn s ∧ cur i = some j ∧ ws[j]? = some x ∧ Ts[j]? = some T ∧ T.done = false) := Lib.hid ⟨ws, Ts, X, mes, cur, sn, s, j, x, T, g, h2⟩
        clear g h1 h2
        go_wp2_with fail
        go_meet
        exact HQ
      | true =>
        have hfree := Lib.hid (h1 rfl)
        have g := Lib.hid g
        have CS := Lib.hid (Start_h g.out.sq.heap c.wb (i : Nat) 28 #[] #[])
        obtain ⟨bq, hbq⟩ : ∃ r, wA.heap.size = r := ⟨_, rfl⟩
        rw [hbq] at CS
        clear h1 h2 hbq
        go_wp2_with fail
        refine CS.out.mono ?_
        rintro e wB ⟨rfl, H⟩
        clear CS
        have B := H.blk 4 (b := bl) (t := 38) (c := lA n cur ws) rfl
        have e1 : World.cell? wB ⟨bl, i, none⟩ = some (ptrV ws (cur i)) := by rw [B.cell i]; exact lA_get hin
        have f1 := B.froz i
        have g2 := gr_start g.out hin hfree.out H
        have hTl := g.out.sq.len
        have HQ : Hid (∃ ws Ts X mes cur sn s j x T, GrS n c bl bs w (wB.setCell ⟨bl, i, none⟩ (.pointer (some ⟨bq + 3, 0, none⟩))) (5 + k) ws Ts X mes cur sn s ∧ cur i = some j ∧ ws[j]? = some x ∧ Ts[j]? = some T ∧ T.done = false) := Lib.hid ⟨_, _, X, _, _, sn, s, ws.length, grW n bq i, newTh (stV bq), g2, if_pos rfl, by simp, by rw [← hTl]; simp, rfl⟩
        clear B H g2 g hfree hTl
        go_wp2_with fail
        go_meet
        exact HQ
    case rest =>
    obtain ⟨ws, Ts, X, mes, cur, sn, s, j, x, T, g, hcu, hx, hT, hd⟩ := hcut.out
    clear hcut HB
    rename World => wC
    have hI : GrI n cur sn s := g.sq.inv
    have v2 := g.wcells
    have L1 := g.lcell hin
    rw [hcu, show ptrV ws (some j) = .pointer (some ⟨x.b + 3, 0, none⟩) by unfold ptrV; dsimp only; rw [hx]] at L1
    have CSa := Said_h g.sq.heap 3 rfl (i : Nat)
    rw [said_is hI.len hI.few hin] at CSa
    have CSa := Lib.hid CSa
    have CSt := Lib.hid (gr_step g hin hcu hx hT hd (by omega))
    have HW := Lib.hid (And.intro g.sl (And.intro g.hw g.hc))
    obtain ⟨va, hva⟩ : ∃ v, sd s i = v := ⟨_, rfl⟩
    rw [hva] at CSa
    have HVA := Lib.hid hva
    clear hI g hcu hx hT hd hva
    go_wp2_with fail
    refine CSa.out.mono ?_
    rintro e w' ⟨rfl, hw⟩
    have hw := hw.symm
    subst hw
    clear CSa
    go_wp2_with fail
    refine CSt.out.mono ?_
    rintro e wD ⟨b3, s', Ts', Y, rfl, hs⟩
    clear CSt L1 v2
    have TL := Lib.hid (gr_tell HW.out.1 HW.out.2.1 HW.out.2.2 hin hs)
    have hI : GrI n cur _ s' := hs.inv
    have hh := hs.heap
    have CSb := Said_h hh 3 rfl (i : Nat)
    rw [said_is hI.len hI.few hin] at CSb
    have CSb := Lib.hid CSb
    have CNw := Lib.hid (Now_h hh 3 rfl)
    have v2 : World.cell? wD ⟨c.wb, 2, none⟩ = some (.pointer (some ⟨c.eb, 0, none⟩)) := by rw [List.append_assoc] at hh; exact (wdL_cells hh).2.2.1
    have B := hs.heap.blk 5 (b := bs) (t := 2) (c := snA sn) rfl
    have e1 : World.cell? wD ⟨bs, i, none⟩ = some (.int .i64 (sn.getD i 0)) := by
      rw [B.cell i]
      simp [snA, List.getD_eq_getElem?_getD, List.getElem?_eq_getElem (show i < sn.length by rw [HW.out.1]; exact hin)]
    have f1 := B.froz i
    obtain ⟨vb, hvb⟩ : ∃ v, sd s' i = v := ⟨_, rfl⟩
    rw [hvb] at CSb
    have HVB := Lib.hid hvb
    clear hI hs hh B hvb
    go_upto_region 17 with fail
    go_cut [78] from 68 to 78 (fun s78 wx => ∃ b : Bool, s78 = .bool b ∧ wx = wD ∧ Hid (b = true ↔ (va = -1 ∧ vb ≠ -1)))
    case first =>
      by_cases h1 : va = -1
      · subst h1
        have fb : ((-1 : Int) == -1) = true := rfl
        go_wp2_with fail
        refine CSb.out.mono ?_
        rintro e w' ⟨rfl, hw⟩
        have hw := hw.symm
        subst hw
        by_cases h2 : vb = -1
        · subst h2
          have fb2 : ((-1 : Int) != -1) = false := rfl
          go_wp2_with fail
          go_meet
          exact ⟨false, rfl, rfl, Lib.hid ⟨fun h => by simp at h, fun h => absurd rfl h.2⟩⟩
        · have fb2 : (vb != -1) = true := by simp [bne, beq_eq_false_iff_ne.2 h2]
          have h2 := Lib.hid h2
          go_wp2_with fail
          go_meet
          exact ⟨true, rfl, rfl, Lib.hid ⟨fun _ => ⟨by first | trivial | rfl, h2.out⟩, fun _ => rfl⟩⟩
      · have fb : (va == -1) = false := beq_eq_false_iff_ne.2 h1
        have h1 := Lib.hid h1
        go_wp2_with fail
        go_meet
        exact ⟨false, rfl, rfl, Lib.hid ⟨fun h => by simp at h, fun h => absurd h.1 h1.out⟩⟩
    case rest =>
    obtain ⟨b, rfl, hwD, HBB⟩ := hcut
    subst hwD
    rename ∀ (a : Act) (w : World), Code.wp Try.prog _ _ a w → _ => hK8
    refine hK8 _ _ ?_
    clear hK8
    rename World => wD
    go_cut [] from 79 to 86 (fun wx => Hid (∃ ws Ts X mes cur sn s, GrS n c bl bs w wx (5 + k + 1) ws Ts X mes cur sn s))
    case first =>
      cases b with
      | true =>
        obtain ⟨h1, h2⟩ := HBB.out.1 rfl
        have HQ : Hid (∃ ws Ts X mes cur sn s, GrS n c bl bs w (World.setCell _ ⟨bs, i, none⟩ (.int .i64 s'.ep.now)) (5 + k + 1) ws Ts X mes cur sn s) := Lib.hid ⟨_, _, _, _, _, _, _, TL.out.2 (by rw [HVA.out]; exact h1) (by rw [HVB.out]; exact h2)⟩
        clear h1 h2 TL HBB
        go_wp2_with fail
        refine CNw.out.mono ?_
        rintro e w' ⟨rfl, hw⟩
        have hw := hw.symm
        subst hw
        go_wp2_with fail
        go_meet
        exact HQ
      | false =>
        have HQ : Hid (∃ ws Ts X mes cur sn s, GrS n c bl bs w _ (5 + k + 1) ws Ts X mes cur sn s) := Lib.hid ⟨_, _, _, _, _, _, _, TL.out.1 (by rw [HVA.out, HVB.out]; exact fun h => by have := HBB.out.2 h; simp at this)⟩
        clear TL HBB
        go_wp2_with fail
        go_meet
        exact HQ
    case rest =>
    clear TL HBB CNw CSb HVA HVB e1 f1 v2 HW
    obtain ⟨ws2, Ts2, X2, mes2, cur2, sn2, s2, g2⟩ := hcut.out
    clear hcut
    rename World => wE
    have G2 := Lib.hid g2
    clear g2
    go_wp2_with fail
    go_loopw [88] (fun q wr => ∃ q' : Nat, q = .int .i64 (q' : Nat) ∧ q' ≤ n ∧ Hid (GrS n c bl bs w wr (5 + k + 1) ws2 Ts2 X2 mes2 cur2 sn2 s2)) (fun q _ => n - (intOf q).toNat)
    case atStart => exact ⟨0, rfl, Nat.zero_le _, G2⟩
    case round =>
    clear G2
    obtain ⟨q, rfl, hq, G2⟩ := hrel
    by_cases hqn : q < n
    · have hqi : (q : Int) < (n : Int) := by omega
      have hI : GrI n cur2 sn2 s2 := G2.out.sq.inv
      have v2 := G2.out.wcells
      have e1 := G2.out.scell hqn
      have hnb := G2.out.sq.ok.ep.nb
      obtain ⟨u, hu⟩ : ∃ u, sn2.getD q 0 = u := ⟨_, rfl⟩
      obtain ⟨vc, hvc⟩ : ∃ u, sd s2 q = u := ⟨_, rfl⟩
      obtain ⟨nw, hnw⟩ : ∃ u, s2.ep.now = u := ⟨_, rfl⟩
      have CA : Hid (∀ z, GrS n c bl bs w z (5 + k + 1) ws2 Ts2 X2 mes2 cur2 sn2 s2 → Calls Try.prog 24 #[.pointer (some ⟨c.eb, 0, none⟩), .int .i64 (q : Int)] z (fun e w' => e = .returned (.int .i64 vc) ∧ w' = z)) := Lib.hid (fun z hz => by
        have C := Said_h hz.sq.heap 3 rfl (q : Nat)
        rw [said_is hI.len hI.few hqn, hvc] at C
        exact C)
      have CB : Hid (∀ z, GrS n c bl bs w z (5 + k + 1) ws2 Ts2 X2 mes2 cur2 sn2 s2 → Calls Try.prog 23 #[.pointer (some ⟨c.eb, 0, none⟩)] z (fun e w' => e = .returned (.int .i64 nw) ∧ w' = z)) := Lib.hid (fun z hz => by
        have C := Now_h hz.sq.heap 3 rfl
        rw [hnw] at C
        exact C)
      have ha := hI.ann q hqn
      rw [hu] at e1 ha
      rw [hvc, hnw] at ha
      rw [hnw] at hnb
      clear hI hu hvc hnw
      go_upto_region 22 with fail
      go_cut [110] from 91 to 110 (fun s110 wx => s110 = .bool false ∧ Hid (GrS n c bl bs w wx (5 + k + 1) ws2 Ts2 X2 mes2 cur2 sn2 s2))
      case first =>
        by_cases h1 : vc = -1
        · subst h1
          have fb : ((-1 : Int) != -1) = false := rfl
          clear ha
          go_quiet (((go_at_call 24; exact Calls.quiet_of_same (CA.out _ (G2.out.drewN _)))))
          go_wp2_with fail
          go_meet
          exact ⟨rfl, Lib.hid (G2.out.drewN _)⟩
        · have fb : (vc != -1) = true := by simp [bne, beq_eq_false_iff_ne.2 h1]
          obtain ⟨h2, h3, h4, h5⟩ := ha h1
          have hgt : decide (u + 1 < nw) = false := decide_eq_false (by omega)
          have hwr : IntKind.i64.wrap (u + 1) = u + 1 := by rw [IntKind.wrap_i64]; omega
          clear ha h1 h2 h3 h4 h5 hnb
          go_quiet ((first
            | (go_at_call 24; exact Calls.quiet_of_same (CA.out _ (G2.out.drewN _)))
            | (go_at_call 23; exact Calls.quiet_of_same (CB.out _ (G2.out.drewN _)))))
          clear hwr
          go_wp2_with fail
          go_meet
          exact ⟨rfl, Lib.hid (G2.out.drewN _)⟩
      case rest =>
      obtain ⟨rfl, G3⟩ := hcut
      clear G2 CA CB ha hnb e1 v2
      rename World => wF
      go_wp2_with fail
      exact ⟨⟨q + 1, by go_num, by omega, G3⟩, by simp [intOf]; omega⟩
    · have HQ : Hid (∃ ws Ts X mes cur sn s, GrS n c bl bs w wr (5 + (k + 1)) ws Ts X mes cur sn s) := Lib.hid ⟨_, _, _, _, _, _, _, G2.out⟩
      clear G2
      go_wp2_with fail
      exact ⟨⟨k + 1, by go_num, by omega, HQ⟩, by simp [intOf]; omega⟩
  · obtain ⟨ws, Ts, X, mes, cur, sn, s, g⟩ := HG.out
    have HB := Lib.hid g.sq.heap.below
    clear g HG
    go_wp2_with fail
    go_ret
    exact ⟨rfl, HB.out⟩
end Go.Proofs.Ythkohomogknddaa
