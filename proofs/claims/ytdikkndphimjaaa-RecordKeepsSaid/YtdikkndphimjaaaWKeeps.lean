/- RecordKeeps: the law's walk. No condition but that the slice can be read. -/
import Derived.Test.YtdikkndphimjaaaRecH
namespace Go.Proofs.Ytdikkndphimjaaa
open Go Go.RowKit
set_option linter.unusedVariables false
set_option linter.unusedSimpArgs false
theorem QRow.typed {w : World} {t : TypeId} {sz : Nat} {v : Value} {n : Nat} {us : List Value} (h : QRow w t sz v n us) (hn : 0 < n) : ∀ g, v.ownBlock = some g → ∃ c, Blk w g t c := fun g hg => by
  obtain ⟨a, cap, rfl, _, _⟩ := h.form
  obtain ⟨g', off, cur, rfl, hb, _, _⟩ := h.at hn
  simp [Value.ownBlock] at hg
  subst hg
  exact ⟨cur, hb⟩
theorem QRow.set {w : World} {t : TypeId} {g off n cap : Nat} {us : List Value} (h : QRow w t 1 (.slice (some ⟨g, off, none⟩) n cap) n us) (i : Nat) (hi : i < n) (x : Value) :
    QRow (w.setCell ⟨g, off + i, none⟩ x) t 1 (.slice (some ⟨g, off, none⟩) n cap) n (us.set i x) ∧ w.frozen? ⟨g, off + i, none⟩ = false := by
  obtain ⟨h0, a, c, hv, h1, h2, h3⟩ := h
  simp only [Value.slice.injEq] at hv
  obtain ⟨rfl, _, rfl⟩ := hv
  rcases h3 with ⟨rfl, _⟩ | ⟨g', off', cur, hg, hb, h4, h5⟩
  · omega
  · simp only [Option.some.injEq, Addr.mk.injEq] at hg
    obtain ⟨rfl, rfl, _⟩ := hg
    refine ⟨⟨by simpa using h0, _, cap, rfl, h1, h2, .inr ⟨_, _, _, rfl, hb.set _ x, by simpa using h4, fun j u hu => ?_⟩⟩, hb.froz _⟩
    by_cases hj : j = i
    · subst hj
      rw [List.getElem?_set_self (by omega)] at hu
      rw [Array.getElem?_setIfInBounds_self_of_lt (by omega)]
      exact hu
    · rw [List.getElem?_set_ne (by omega)] at hu
      rw [Array.getElem?_setIfInBounds_ne (by omega)]
      exact h5 j u hu
/-- What stays: the table, the record that was put aside. -/
structure Kp (w : World) (t WB : Nat) (S : Nat → Prop) (wn wi : Value) (xs : List Int) : Prop where
  tab : Tab w t S [⟨xs, xs, 1, 0, 0, 0, 1, false⟩] 1
  blk : Blk w WB 31 #[wn, wi, .int .i64 1, .int .i64 0, .int .i64 0, .int .i64 0]
  qn : QRow w 29 1 wn xs.length (xs.map (Value.int .i64))
  qi : QRow w 2 1 wi xs.length (xs.map (Value.int .i64))
/-- The blocks of it. -/
def KB (WB : Nat) (S : Nat → Prop) (wn wi : Value) (k : Nat) : Prop := S k ∨ k = WB ∨ wn.ownBlock = some k ∨ wi.ownBlock = some k
theorem Kp.fr {F : Nat → Prop} {w w' : World} {t WB : Nat} {S : Nat → Prop} {wn wi : Value} {xs : List Int} (h : Kp w t WB S wn wi xs) (hf : Fr F w w') (hn : ∀ k, KB WB S wn wi k → ¬ F k) : Kp w' t WB S wn wi xs :=
  ⟨h.tab.fr hf (fun k hk => hn k (.inl hk)), h.blk.fr hf (hn _ (.inr (.inl rfl))), h.qn.fr hf (fun g hg _ => hn g (.inr (.inr (.inl hg)))), h.qi.fr hf (fun g hg _ => hn g (.inr (.inr (.inr hg))))⟩
set_option maxHeartbeats 1600000 in
set_option maxRecDepth 100000 in
theorem RecordKeeps_walk (v : Value) (xs : List Int) (w : World) (R : RdV w v xs.length 1 (xs.map (Value.int .i64))) (hx : ∀ n ∈ xs, (Lit.int .i64 n).wf = true) :
    Calls Try.prog 4 #[v] w fun e w' => e = .returned (.bool true) ∧ Below w.heap.size w w' := by
  have hm := R.short
  obtain ⟨av, cv, rfl⟩ := R.len
  have HR := Lib.hid R
  clear R hx
  obtain ⟨i0, hi, hz0, hz1, hz2⟩ := info_parts info_ref
  obtain ⟨j0, hj, jz0, jz1, jz2⟩ := info_parts info_i64
  generalize hN : xs.length = N at *
  have HN := Lib.hid hN
  clear hN
  go_enter Try.func4, Try.ntmps4
  go_wp2_with fail
  refine (Awake_calls _).mono ?_
  rintro e w1 ⟨rfl, F1⟩
  by_cases h20 : 20 < N
  · go_wp2_with fail
    go_ret
    exact ⟨rfl, F1.below (Nat.le_refl _) (fun _ x => x.elim)⟩
  go_wp2_with fail
  generalize hRB : w1.heap.size = RB
  have hl1 := F1.size
  go_loopw [20] (fun i wr => ∃ (k : Nat) (an ai : Option Addr) (cn ci : Nat), k ≤ N ∧ i = .int .i64 k ∧ Fr nob w wr ∧ Blk wr RB 31 #[.slice an k cn, .slice ai k ci, .int .i64 1, .int .i64 0, .int .i64 0, .int .i64 0] ∧
    QRow wr 29 1 (.slice an k cn) k ((xs.take k).map (Value.int .i64)) ∧ QRow wr 2 1 (.slice ai k ci) k ((xs.take k).map (Value.int .i64)) ∧
    (∀ g, (Value.slice an k cn).ownBlock = some g → w.heap.size ≤ g ∧ ∃ c, Blk wr g 29 c) ∧ (∀ g, (Value.slice ai k ci).ownBlock = some g → w.heap.size ≤ g ∧ ∃ c, Blk wr g 2 c)) (fun i _ => N - (intOf i).toNat)
  case atStart =>
    refine ⟨0, none, none, 0, 0, Nat.zero_le _, rfl, ?_, ?_, QRow.nil _ _ _, QRow.nil _ _ _, fun g hg => by simp [Value.ownBlock] at hg, fun g hg => by simp [Value.ownBlock] at hg⟩
    · exact F1.alloc _
    · subst hRB; exact Blk.new _ _ _
  case round =>
    obtain ⟨k, an, ai, cn, ci, hk, rfl, F3, B3, q1, q2, o1, o2⟩ := hrel
    by_cases hlt : k < N
    · have R3 := HR.out.fr F3 (fun _ _ _ x => x)
      obtain ⟨a, rfl, hc, hat⟩ := R3.at (by omega)
      have hkk : k < xs.length := by have := HN.out; omega
      have hc3 := hat k (.int .i64 (xs.getD k 0)) (by simp [List.getD, List.getElem?_eq_getElem hkk])
      have htk : (xs.take (k + 1)).map (Value.int .i64) = (xs.take k).map (Value.int .i64) ++ [.int .i64 (xs.getD k 0)] := by
        rw [List.take_succ_eq_append_getElem hkk, List.map_append]
        simp only [List.map_cons, List.map_nil, List.getD, List.getElem?_eq_getElem hkk, Option.getD_some]
      have HTK := Lib.hid htk
      clear hat R3 htk hkk
      generalize xs.getD k 0 = x at *
      have n1 : ∀ g, (Value.slice an k cn).ownBlock = some g → g ≠ RB := fun g hg => by
        obtain ⟨_, c, hc⟩ := o1 g hg
        exact hc.ne B3 (by decide)
      have n2 : ∀ g, (Value.slice ai k ci).ownBlock = some g → g ≠ RB := fun g hg => by
        obtain ⟨_, c, hc⟩ := o2 g hg
        exact hc.ne B3 (by decide)
      have n3 : ∀ g, (Value.slice ai k ci).ownBlock = some g → (Value.slice an k cn).ownBlock ≠ some g := fun g hg hx => by
        obtain ⟨_, c, hc⟩ := o2 g hg
        obtain ⟨_, c', hc'⟩ := o1 g hx
        exact hc.ne hc' (by decide) rfl
      have b0 : wr.cell? ⟨RB, 0, none⟩ = some (Value.slice an k cn) := B3.cell 0
      have b1 : wr.cell? ⟨RB, 1, none⟩ = some (Value.slice ai k ci) := B3.cell 1
      have z0 : wr.frozen? ⟨RB, 0, none⟩ = false := B3.froz 0
      have z1 : wr.frozen? ⟨RB, 1, none⟩ = false := B3.froz 1
      have lb := B3.lt
      have Q1 := Lib.hid q1
      have Q2 := Lib.hid q2
      have O := Lib.hid (And.intro o1 o2)
      have N1 := Lib.hid (And.intro n1 (And.intro n2 n3))
      have hlm : k + 1 ≤ maxLen := by omega
      have hlb : (k + 1) * 8 ≤ 140737488355328 := by omega
      clear q1 q2 o1 o2 n1 n2 n3
      go_wp2_with fail
      go_region_law (first
        | (refine step_append_any _ (by rfl) _ _ _ (by rfl) 29 i0 (.int .i64 0) 1 8 Try.underlying27 hi hz0 hz1 hz2 rfl (by decide) (.slice an k cn) k _ (by rfl) (Q1.out.fr (F := nob) (by repeat (first | exact Fr.refl _ _ | apply Fr.drew | apply Fr.alloc)) (fun _ _ _ x => x)) _ 1 [.int .i64 x] (by rfl) (RdV.block (cs := #[.int .i64 x]) (t := 29) (by repeat (first | exact Blk.new' (by simp) _ _ | apply Blk.drew | apply Blk.alloc)) rfl (by decide)) (by simp [Value.oneCell']) hlm hlb ?_; intro a2 c2 w2 q2 grow2 hat2; have f2 : Fr (fun j => (Value.slice an k cn).ownBlock = some j) wr w2 := Fr.grown (by repeat (first | exact Fr.refl _ _ | apply Fr.drew | apply Fr.alloc)) grow2 (fun k hk => .inl hk); have x1 := f2.cell' b1 (fun x => N1.out.1 _ x rfl); have x2 := f2.cell' b0 (fun x => N1.out.1 _ x rfl); have x3 := f2.froz' b0 z0 (fun x => N1.out.1 _ x rfl); have x4 := f2.froz' b1 z1 (fun x => N1.out.1 _ x rfl); have m2 := f2.size; have m2' := grow2.size; have l2 : RB < w2.heap.size := (by omega); have v2 := Q2.out.fr f2 (fun g hg _ hx => N1.out.2.2 g hg hx); have kb := fun (b : Nat) (hb : wr.heap.size ≤ b) (t : TypeId) (c : Array Value) (h : Blk _ b t c) => h.grown grow2 (fun hx => by obtain ⟨_, c, hc⟩ := O.out.1 b hx; have := hc.lt; omega))
        | (refine step_append_any _ (by rfl) _ _ _ (by rfl) 2 j0 (.int .i64 0) 1 8 Try.underlying28 hj jz0 jz1 jz2 rfl (by decide) (.slice ai k ci) k _ (by rfl) (v2.fr (F := nob) (by repeat (first | exact Fr.refl _ _ | apply Fr.drew | apply Fr.alloc)) (fun _ _ _ x => x)) _ 1 [.int .i64 x] (by rfl) (RdV.block (cs := #[.int .i64 x]) (t := 2) (by repeat (first | exact Blk.new' (by simp) _ _ | exact kb _ (by simp) _ _ (by repeat (first | exact Blk.new' (by simp) _ _ | apply Blk.drew | apply Blk.alloc)) | apply Blk.drew | apply Blk.alloc)) rfl (by decide)) (by simp [Value.oneCell']) hlm hlb ?_; intro a3 c3 w3 q3 grow3 hat3; have f3 : Fr (fun j => (Value.slice ai k ci).ownBlock = some j) w2 w3 := Fr.grown (by repeat (first | exact Fr.refl _ _ | apply Fr.drew | apply Fr.alloc)) grow3 (fun k hk => .inl hk); have y1 := f3.cell' x1 (fun x => N1.out.2.1 _ x rfl); have y2 := f3.cell' x2 (fun x => N1.out.2.1 _ x rfl); have y3 := f3.froz' x2 x3 (fun x => N1.out.2.1 _ x rfl); have y4 := f3.froz' x1 x4 (fun x => N1.out.2.1 _ x rfl); have l3 : RB < w3.heap.size := (by have := f3.size; omega); have m3' := grow3.size))
      all_goals
        go_wp2_with fail
        have G0 := ((Fr.refl (fun k => k = RB) w3).setCell (p := ⟨RB, 0, none⟩) (.inl rfl) (.slice a2 (k + 1) c2)).setCell (p := ⟨RB, 1, none⟩) (.inl rfl) (.slice a3 (k + 1) c3)
        have hq2 : QRow w3 29 1 (.slice a2 (k + 1) c2) (k + 1) _ := q2.fr f3 (fun g hg _ hx => by
          obtain ⟨_, c, hc⟩ := O.out.2 g hx
          have := hc.lt
          rcases hat2 g hg with h | h
          · exact N1.out.2.2 g hx h
          · simp at h; omega)
        have t2 := hq2.typed (by omega)
        have t3 := q3.typed (by omega)
        have u2 : ∀ g, (Value.slice a2 (k + 1) c2).ownBlock = some g → w.heap.size ≤ g := fun g hg => by
          rcases hat2 g hg with h | h
          · exact (O.out.1 g h).1
          · have := F3.size; try simp at h
            omega
        have u3 : ∀ g, (Value.slice a3 (k + 1) c3).ownBlock = some g → w.heap.size ≤ g := fun g hg => by
          rcases hat3 g hg with h | h
          · exact (O.out.2 g h).1
          · have := F3.size; try simp at h
            omega
        have B4 := ((B3.fr f2 (fun x => N1.out.1 _ x rfl)).fr f3 (fun x => N1.out.2.1 _ x rfl))
        have G1 := G0
        refine ⟨⟨k + 1, a2, a3, c2, c3, by omega, by go_num, ?_, (B4.set 0 _).set 1 _, ?_, ?_, ?_, ?_⟩, by simp [intOf]; omega⟩
        · exact ((F3.trans f2 (fun j hj hx => by have := (O.out.1 j hx).1; omega)).trans f3 (fun j hj hx => by have := (O.out.2 j hx).1; omega)).trans G0 (fun j hj hx => by subst hx; omega)
        · rw [HTK.out]
          exact hq2.fr G0 (fun g hg hb hx => by obtain ⟨c, hc⟩ := t2 g hg; exact hc.ne B4 (by decide) hx)
        · rw [HTK.out]
          exact q3.fr G0 (fun g hg hb hx => by obtain ⟨c, hc⟩ := t3 g hg; exact hc.ne B4 (by decide) hx)
        · intro g hg
          obtain ⟨c, hc⟩ := t2 g hg
          exact ⟨u2 g hg, c, hc.fr G0 (hc.ne B4 (by decide))⟩
        · intro g hg
          obtain ⟨c, hc⟩ := t3 g hg
          exact ⟨u3 g hg, c, hc.fr G0 (hc.ne B4 (by decide))⟩
    · obtain rfl : k = N := by omega
      have hxs : xs.take k = xs := List.take_of_length_le (by have := HN.out; omega)
      rw [hxs] at q1 q2
      have hl := HN.out
      have s0 : xs.length * 8 ≤ 140737488355328 := by omega
      have e1 : Rd wr (.slice an k cn) xs := (by rw [← hl] at q1 ⊢; exact q1.rdv.rd s0)
      have e2 : Rd wr (.slice ai k ci) xs := (by rw [← hl] at q2 ⊢; exact q2.rdv.rd s0)
      obtain ⟨d0, d1, d2, d3, d4, d5⟩ := B3.six
      have QQ := Lib.hid (And.intro q1 (And.intro q2 (And.intro o1 o2)))
      have EE := Lib.hid (And.intro e1 e2)
      clear q1 q2 o1 o2 e1 e2 hxs hl
      have lRB := B3.lt
      go_wp2_with fail
      refine (Copy_calls _ _ _ _ _ _ _ _ _ EE.out.1 EE.out.2).mono ?_
      rintro e w4 ⟨v4, rfl, ⟨bn, en, bi, ei, rfl, r1, r2, hb1, hb2⟩, F4⟩
      have hN0 := HN.out
      rw [hN0] at r1 r2 hb1 hb2 ⊢
      clear hN0
      have B4 := B3.fr F4 (fun x => x)
      have l4 := F4.size
      have lRB4 := B4.lt
      obtain ⟨d0', d1', d2', d3', d4', d5'⟩ := B4.six
      have RR := Lib.hid (And.intro r1 (And.intro r2 (And.intro hb1 hb2)))
      clear r1 r2 hb1 hb2 d0 d1 d2 d3 d4 d5
      go_wp2_with fail
      generalize hW5 : w4.alloc (Obj.cells #[Value.slice bn k en, Value.slice bi k ei, Value.int IntKind.i64 1, Value.int IntKind.i64 0, Value.int IntKind.i64 0, Value.int IntKind.i64 0] 31) = w5
      have F5 : Fr nob w4 w5 := by rw [← hW5]; exact (Fr.refl _ _).alloc _
      have C5 : Blk w5 w4.heap.size 31 #[Value.slice bn k en, Value.slice bi k ei, Value.int IntKind.i64 1, Value.int IntKind.i64 0, Value.int IntKind.i64 0, Value.int IntKind.i64 0] := by rw [← hW5]; exact Blk.new _ _ _
      have s5 : w5.heap.size = w4.heap.size + 1 := by rw [← hW5]; simp
      have S5 := Lib.hid s5
      clear hW5 s5
      generalize hWB : w4.heap.size = WB at *
      have F45 := F4.trans F5 (fun _ _ x => x)
      have B5 := B3.fr F45 (fun x => x)
      refine (New_tab 1 _).mono ?_
      rintro e w6 ⟨rfl, F6, T6⟩
      have T6 : Tab w6 w5.heap.size (wide nob w5 w6) [] 1 := T6
      generalize ht : w5.heap.size = t at *
      have F46 := F45.trans F6 (fun _ _ x => x)
      have S6 : ∀ j, wide nob w5 w6 j → t ≤ j := fun j hj => by
        rcases hj with hj | hj
        · exact hj.elim
        · omega
      have HT := Lib.hid (And.intro hWB ht)
      clear hWB ht
      generalize wide nob w5 w6 = S at *
      have B6 := B3.fr F46 (fun x => x)
      obtain ⟨d0, d1, d2, d3, d4, d5⟩ := B6.six
      have e1 := EE.out.1.fr F46 (fun _ _ _ x => x)
      have e2 := EE.out.2.fr F46 (fun _ _ _ x => x)
      clear d0' d1' d2' d3' d4' d5'
      go_wp2_with fail
      refine (Make_yes t S [] 1 _ _ xs xs 1 0 0 0 w6 T6 e1 e2 rfl (by decide) (by decide)).mono ?_
      rintro e w7 ⟨rfl, F7, T7⟩
      have T7 : Tab w7 t (wide S w6 w7) [⟨xs, xs, 1, 0, 0, 0, 1, false⟩] 1 := T7
      have hw6 := F46.size
      have hwr := F3.size
      have lWB := C5.lt
      have FF : Fr nob w w7 := (F3.trans F46 (fun _ _ x => x)).trans F7 (fun j hj hx => by
        have h1 := S6 j hx
        have h2 := HT.out.2
        have h3 := F45.size
        omega)
      have S7 : ∀ j, wide S w6 w7 j → t ≤ j := fun j hj => by
        rcases hj with hj | hj
        · exact S6 j hj
        · have h2 := HT.out.2
          have h3 := F6.size
          omega
      generalize wide S w6 w7 = S' at *
      have F47 : Fr S wr w7 := (F46.mono (fun _ _ x => x.elim)).trans F7 (fun _ _ x => x)
      have htw : ∀ b, b < wr.heap.size → ¬ S b := fun b hb hx => by
        have h1 := S6 b hx
        have h2 := HT.out.2
        have h3 := F45.size
        omega
      have hks : ∀ b, b < t → ¬ S' b := fun b hb hx => by
        have h1 := S7 b hx
        omega
      have F57 : Fr S w5 w7 := (F6.mono (fun _ _ x => x.elim)).trans F7 (fun _ _ x => x)
      have F47' : Fr S w4 w7 := (F5.mono (fun _ _ x => x.elim)).trans F57 (fun _ _ x => x)
      have htS : ∀ b, b < t → ¬ S b := fun b hb hx => by
        have h1 := S6 b hx
        omega
      have l5 := F5.size
      have B7 := B6.fr F7 (htw RB lRB)
      have C7 := C5.fr F57 (htS WB (by have := HT.out.2; omega))
      have KP : Kp w7 t WB S' (.slice bn k en) (.slice bi k ei) xs := by
        obtain ⟨r1, r2, hb1, hb2⟩ := RR.out
        have h2 := HT.out.1
        have h3 := HT.out.2
        refine ⟨T7, C7, ?_, ?_⟩
        · rw [HN.out]; exact r1.fr F47' (fun g hg _ => htS g (by have := (hb1 g hg).2; omega))
        · rw [HN.out]; exact r2.fr F47' (fun g hg _ => htS g (by have := (hb2 g hg).2; omega))
      have KL : ∀ g, KB WB S' (.slice bn k en) (.slice bi k ei) g → g < w7.heap.size := fun g hg => by
        obtain ⟨r1, r2, hb1, hb2⟩ := RR.out
        have h2 := F47'.size
        have h3 := HT.out.1
        rcases hg with hg | rfl | hg | hg
        · exact T7.lt g hg
        · exact C7.lt
        · have := (hb1 g hg).2; omega
        · have := (hb2 g hg).2; omega
      have KW : ∀ g, KB WB S' (.slice bn k en) (.slice bi k ei) g → wr.heap.size ≤ g := fun g hg => by
        obtain ⟨r1, r2, hb1, hb2⟩ := RR.out
        have h2 := HT.out.1
        have h3 := HT.out.2
        rcases hg with hg | rfl | hg | hg
        · have := S7 g hg; omega
        · omega
        · exact (hb1 g hg).1
        · exact (hb2 g hg).1
      have V1 : QRow w7 29 1 (.slice an k cn) k (xs.map (Value.int .i64)) := QQ.out.1.fr F47 (fun g hg hb => by obtain ⟨c, hb⟩ := hb; exact htw g hb.lt)
      have V2 : QRow w7 2 1 (.slice ai k ci) k (xs.map (Value.int .i64)) := QQ.out.2.1.fr F47 (fun g hg hb => by obtain ⟨c, hb⟩ := hb; exact htw g hb.lt)
      have o1 : ∀ g, (Value.slice an k cn).ownBlock = some g → w.heap.size ≤ g ∧ (∃ c, Blk w7 g 29 c) ∧ ¬ KB WB S' (.slice bn k en) (.slice bi k ei) g := fun g hg => by
        obtain ⟨h1, c, hc⟩ := QQ.out.2.2.1 g hg
        exact ⟨h1, ⟨c, hc.fr F47 (htw g hc.lt)⟩, fun hx => by have := KW g hx; have := hc.lt; omega⟩
      have o2 : ∀ g, (Value.slice ai k ci).ownBlock = some g → w.heap.size ≤ g ∧ (∃ c, Blk w7 g 2 c) ∧ ¬ KB WB S' (.slice bn k en) (.slice bi k ei) g := fun g hg => by
        obtain ⟨h1, c, hc⟩ := QQ.out.2.2.2 g hg
        exact ⟨h1, ⟨c, hc.fr F47 (htw g hc.lt)⟩, fun hx => by have := KW g hx; have := hc.lt; omega⟩
      have kRB : ¬ KB WB S' (.slice bn k en) (.slice bi k ei) RB := fun hx => by have := KW RB hx; omega
      clear B3 F3 T7 C7 KW F47 F47' F57 F46 F45 F6 F7 F5 F4 F1 S7 S6 htw hks htS l4 l5 lRB4 B4 B5 B6 hw6 d0 d1 d2 d3 d4 d5 e1 e2 T6 QQ RR EE C5 lWB
      generalize hwn : Value.slice bn k en = wn at *
      generalize hwi : Value.slice bi k ei = wi at *
      have HW := Lib.hid (And.intro hwn hwi)
      clear hwn hwi
      go_wp2_with fail
      go_loopw [46] (fun i wr2 => ∃ (j : Nat) (an ai : Option Addr) (cn ci : Nat), j ≤ 2 ∧ i = .int .i64 j ∧ Fr nob w wr2 ∧ Kp wr2 t WB S' wn wi xs ∧ (∀ g, KB WB S' wn wi g → g < wr2.heap.size) ∧ Blk wr2 RB 31 #[.slice an k cn, .slice ai k ci, .int .i64 1, .int .i64 0, .int .i64 0, .int .i64 0] ∧
        QRow wr2 29 1 (.slice an k cn) k (xs.map (Value.int .i64)) ∧ QRow wr2 2 1 (.slice ai k ci) k (xs.map (Value.int .i64)) ∧
        (∀ g, (Value.slice an k cn).ownBlock = some g → w.heap.size ≤ g ∧ (∃ c, Blk wr2 g 29 c) ∧ ¬ KB WB S' wn wi g) ∧ (∀ g, (Value.slice ai k ci).ownBlock = some g → w.heap.size ≤ g ∧ (∃ c, Blk wr2 g 2 c) ∧ ¬ KB WB S' wn wi g)) (fun i _ => 2 - (intOf i).toNat)
      case atStart => exact ⟨0, an, ai, cn, ci, by omega, rfl, FF, KP, KL, B7, V1, V2, o1, o2⟩
      case round =>
        clear FF KP KL B7 V1 V2 o1 o2
        rename World => w8
        obtain ⟨j, an, ai, cn, ci, hj2, rfl, F8, KP, KL, B8, V1, V2, o1, o2⟩ := hrel
        have KPH := Lib.hid (And.intro KP (And.intro KL (And.intro o1 o2)))
        have n1 : ∀ g, (Value.slice an k cn).ownBlock = some g → g ≠ RB := fun g hg => by
          obtain ⟨_, ⟨c, hc⟩, _⟩ := o1 g hg
          exact hc.ne B8 (by decide)
        have n2 : ∀ g, (Value.slice ai k ci).ownBlock = some g → g ≠ RB := fun g hg => by
          obtain ⟨_, ⟨c, hc⟩, _⟩ := o2 g hg
          exact hc.ne B8 (by decide)
        have n3 : ∀ g, (Value.slice ai k ci).ownBlock = some g → (Value.slice an k cn).ownBlock ≠ some g := fun g hg hx => by
          obtain ⟨_, ⟨c, hc⟩, _⟩ := o2 g hg
          obtain ⟨_, ⟨c', hc'⟩, _⟩ := o1 g hx
          exact hc.ne hc' (by decide) rfl
        have NN := Lib.hid (And.intro n1 (And.intro n2 n3))
        clear KP KL o1 o2 n1 n2 n3
        by_cases hj : j < 2
        · have d0 : w8.cell? ⟨RB, 0, none⟩ = some (Value.slice an k cn) := B8.cell 0
          go_wp2_with fail
          go_loopw [51] (fun i wr3 => ∃ (m : Nat) (ns : List Int), m ≤ k ∧ i = .int .i64 m ∧ ns.length = k ∧ Fr (fun g => (Value.slice an k cn).ownBlock = some g) w8 wr3 ∧ QRow wr3 29 1 (.slice an k cn) k (ns.map (Value.int .i64))) (fun i _ => k - (intOf i).toNat)
          case atStart => exact ⟨0, xs, Nat.zero_le _, rfl, HN.out, Fr.refl _ _, V1⟩
          case round =>
            rename World => w9
            obtain ⟨m, ns, hmk, rfl, hns, F9, V9⟩ := hrel
            have B9 := B8.fr F9 (fun x => NN.out.1 _ x rfl)
            have e0 : w9.cell? ⟨RB, 0, none⟩ = some (Value.slice an k cn) := B9.cell 0
            have HNS := Lib.hid hns
            clear hns
            by_cases hml : m < k
            · obtain ⟨g, off, cur, rfl, hb, hcap, hat⟩ := V9.at (by omega)
              have hc := hat m (.int .i64 (ns.getD m 0)) (by have := HNS.out; simp [List.getD, List.getElem?_eq_getElem (show m < ns.length by omega)])
              obtain ⟨_, hf⟩ := V9.set m hml (.int .i64 0)
              have HAT := Lib.hid hat
              clear hat
              generalize ns.getD m 0 = x at *
              go_wp2_with fail
              refine ⟨⟨m + 1, ns.set m (wrap64 (x + 1)), by omega, by go_num, by simp [HNS.out], F9.setCell (p := ⟨g, off + m, none⟩) (.inl rfl) _, ?_⟩, by simp [intOf]; omega⟩
              rw [List.map_set]
              exact (V9.set m hml _).1
            · have V2' := V2.fr F9 (fun g hg _ hx => NN.out.2.2 g hg hx)
              have e1 : w9.cell? ⟨RB, 1, none⟩ = some (Value.slice ai k ci) := B9.cell 1
              go_wp2_with fail
              go_loopw [65] (fun i wr3 => ∃ (m : Nat) (ms : List Int), m ≤ k ∧ i = .int .i64 m ∧ ms.length = k ∧ Fr (fun g => (Value.slice ai k ci).ownBlock = some g) w9 wr3 ∧ QRow wr3 2 1 (.slice ai k ci) k (ms.map (Value.int .i64))) (fun i _ => k - (intOf i).toNat)
              case atStart => exact ⟨0, xs, Nat.zero_le _, rfl, HN.out, Fr.refl _ _, V2'⟩
              case round =>
                clear V2'
                rename World => w10
                obtain ⟨m', ms, hmk', rfl, hms, F10, V10⟩ := hrel
                have B10 := B9.fr F10 (fun x => NN.out.2.1 _ x rfl)
                have e2 : w10.cell? ⟨RB, 1, none⟩ = some (Value.slice ai k ci) := B10.cell 1
                have HMS := Lib.hid hms
                clear hms
                by_cases hml' : m' < k
                · obtain ⟨g, off, cur, rfl, hb, hcap, hat⟩ := V10.at (by omega)
                  have hc := hat m' (.int .i64 (ms.getD m' 0)) (by have := HMS.out; simp [List.getD, List.getElem?_eq_getElem (show m' < ms.length by omega)])
                  obtain ⟨_, hf⟩ := V10.set m' hml' (.int .i64 0)
                  have HAT := Lib.hid hat
                  clear hat
                  generalize ms.getD m' 0 = x at *
                  go_wp2_with fail
                  refine ⟨⟨m' + 1, ms.set m' (wrap64 (x + 1)), by omega, by go_num, by simp [HMS.out], F10.setCell (p := ⟨g, off + m', none⟩) (.inl rfl) _, ?_⟩, by simp [intOf]; omega⟩
                  rw [List.map_set]
                  exact (V10.set m' hml' _).1
                · obtain ⟨KP, KL, o1, o2⟩ := KPH.out
                  have F8a : Fr nob w w10 := (F8.trans F9 (fun j hj hx => by have := (o1 j hx).1; omega)).trans F10 (fun j hj hx => by have := (o2 j hx).1; omega)
                  have KP10 := (KP.fr F9 (fun g hg hx => (o1 g hx).2.2 hg)).fr F10 (fun g hg hx => (o2 g hx).2.2 hg)
                  have KL10 : ∀ g, KB WB S' wn wi g → g < w10.heap.size := fun g hg => by have := KL g hg; have := F9.size; have := F10.size; omega
                  have KH := Lib.hid (And.intro KP10 KL10)
                  have l10 := B10.lt
                  clear KP KL o1 o2 KPH F8 F9 F10 V9 V10 V1 V2 B8 B9 NN e0 e1 e2 d0 KP10 KL10
                  go_wp2_with fail
                  refine (Look_calls KH.out.1.tab 1 ⟨xs, xs, 1, 0, 0, 0, 1, false⟩ rfl).mono ?_
                  rintro e w11 ⟨v11, rfl, ⟨an', cn', ai', ci', rfl, r1, r2⟩, F11⟩
                  have KP11 := KH.out.1.fr F11 (fun _ _ x => x)
                  have KL11 := KH.out.2
                  have B11 := B10.fr F11 (fun x => x)
                  have hl := HN.out
                  simp only [hl] at r1 r2 ⊢
                  have l11 := F11.size
                  obtain ⟨d0, d1, d2, d3, d4, d5⟩ := B11.six
                  have z0 : w11.frozen? ⟨RB, 0, none⟩ = false := B11.froz 0
                  have z1 : w11.frozen? ⟨RB, 1, none⟩ = false := B11.froz 1
                  have z2 : w11.frozen? ⟨RB, 2, none⟩ = false := B11.froz 2
                  have z3 : w11.frozen? ⟨RB, 3, none⟩ = false := B11.froz 3
                  have z4 : w11.frozen? ⟨RB, 4, none⟩ = false := B11.froz 4
                  have z5 : w11.frozen? ⟨RB, 5, none⟩ = false := B11.froz 5
                  obtain ⟨c0, c1, c2, c3, c4, c5⟩ := KP11.blk.six
                  have hne : ¬ WB = RB := fun h => kRB (.inr (.inl h.symm))
                  have hne' : ¬ RB = WB := fun h => kRB (.inr (.inl h))
                  have XX := Lib.hid (And.intro KP11 (And.intro KL11 (And.intro B11 (And.intro r1 (And.intro r2 hl)))))
                  clear KP11 KL11 B11 r1 r2 hl
                  go_wp2_with fail
                  have G12 := ((((((Fr.refl (fun k => k = RB) w11).setCell (p := ⟨RB, 0, none⟩) (.inl rfl) (.slice an' k cn')).setCell (p := ⟨RB, 1, none⟩) (.inl rfl) (.slice ai' k ci')).setCell (p := ⟨RB, 2, none⟩) (.inl rfl) (.int .i64 1)).setCell (p := ⟨RB, 3, none⟩) (.inl rfl) (.int .i64 0)).setCell (p := ⟨RB, 4, none⟩) (.inl rfl) (.int .i64 0)).setCell (p := ⟨RB, 5, none⟩) (.inl rfl) (.int .i64 0)
                  have B12 := (((((XX.out.2.2.1.set 0 (.slice an' k cn')).set 1 (.slice ai' k ci')).set 2 (.int .i64 1)).set 3 (.int .i64 0)).set 4 (.int .i64 0)).set 5 (.int .i64 0)
                  generalize ((((((w11.setCell ⟨RB, 0, none⟩ (.slice an' k cn')).setCell ⟨RB, 1, none⟩ (.slice ai' k ci')).setCell ⟨RB, 2, none⟩ (.int .i64 1)).setCell ⟨RB, 3, none⟩ (.int .i64 0)).setCell ⟨RB, 4, none⟩ (.int .i64 0)).setCell ⟨RB, 5, none⟩ (.int .i64 0)) = w12 at *
                  have B12 : Blk w12 RB 31 #[.slice an' k cn', .slice ai' k ci', .int .i64 1, .int .i64 0, .int .i64 0, .int .i64 0] := B12
                  obtain ⟨KP11, KL11, B11, r1, r2, hl⟩ := XX.out
                  have KP12 := KP11.fr G12 (fun g hg hx => kRB (hx ▸ hg))
                  have p1 := ownsRow_fr r1 G12 (fun g hg hx => by have := (ownsRow_block r1 hg).1; omega)
                  have p2 := ownsRow_fr r2 G12 (fun g hg hx => by have := (ownsRow_block r2 hg).1; omega)
                  have q1 := QRow.of_own p1
                  have q2 := QRow.of_own p2
                  have k1 := KP12.qn
                  have k2 := KP12.qi
                  have R1 : Rd w12 (.slice an' k cn') xs := by rw [← hl] at q1 ⊢; exact q1.rdv.rd s0
                  have R2 : Rd w12 (.slice ai' k ci') xs := by rw [← hl] at q2 ⊢; exact q2.rdv.rd s0
                  refine (Same_true _ _ _ _ xs xs 1 0 0 0 _ R1 R2 (k1.rdv.rd s0) (k2.rdv.rd s0)).mono ?_
                  rintro e w13 ⟨rfl, F13⟩
                  have P1 := Lib.hid p1
                  have P2 := Lib.hid p2
                  have l12 := G12.size
                  have BB := Lib.hid (And.intro B12 (And.intro q1 (And.intro q2 (And.intro KP12 KL11))))
                  clear B12 q1 q2 k1 k2 R1 R2 KP12 KP11 KL11 B11 r1 r2 hl p1 p2 c0 c1 c2 c3 c4 c5 d0 d1 d2 d3 d4 d5 z0 z1 z2 z3 z4 z5
                  go_wp2_with fail
                  obtain ⟨B12, q1, q2, KP12, KL11⟩ := BB.out
                  have F8b := F8a.size
                  have l13 := F13.size
                  refine ⟨⟨j + 1, an', ai', cn', ci', by omega, by go_num, ((F8a.trans F11 (fun _ _ x => x)).trans G12 (fun g hg hx => by subst hx; omega)).trans F13 (fun _ _ x => x), KP12.fr F13 (fun _ _ x => x), fun g hg => by have := KL11 g hg; omega, B12.fr F13 (fun x => x), (by have h := q1.fr F13 (fun _ _ _ x => x); rw [HN.out] at h; exact h), (by have h := q2.fr F13 (fun _ _ _ x => x); rw [HN.out] at h; exact h), fun g hg => ?_, fun g hg => ?_⟩, by simp [intOf]; omega⟩
                  · obtain ⟨hb, c, hc⟩ := ownsRow_block P1.out hg
                    exact ⟨by omega, ⟨c, hc.fr F13 (fun x => x)⟩, fun hx => by have := KL11 g hx; omega⟩
                  · obtain ⟨hb, c, hc⟩ := ownsRow_block P2.out hg
                    exact ⟨by omega, ⟨c, hc.fr F13 (fun x => x)⟩, fun hx => by have := KL11 g hx; omega⟩
        · go_wp2_with fail
          go_ret
          exact ⟨rfl, F8.below (Nat.le_refl _) (fun _ x => x.elim)⟩
end Go.Proofs.Ytdikkndphimjaaa
