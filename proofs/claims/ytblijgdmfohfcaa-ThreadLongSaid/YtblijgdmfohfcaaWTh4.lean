/- ThreadLong: the law's walk. No condition but that what is handed in can be read. -/
import Derived.Test.YtblijgdmfohfcaaThN
namespace Go.Proofs.Ytblijgdmfohfcaa
open Go Go.RowKit
set_option linter.unusedVariables false
set_option linter.unusedSimpArgs false
theorem lg_rest (want : Int) : ∀ (l : List Int) (f : Nat) (k : Int), (∀ x ∈ l, x < want) → l.length ≤ f → (lg f want k).told l ∧ (lg f want k).rest l = lg (f - l.length) want (k + l.length)
  | [], f, k, _, _ => ⟨by cases f <;> trivial, by rw [rest_nil]; simp⟩
  | x :: l, 0, k, _, h => by simp at h
  | x :: l, f + 1, k, hx, h => by
    have h1 := hx x (by simp)
    obtain ⟨i1, i2⟩ := lg_rest want l f (k + 1) (fun y hy => hx y (by simp [hy])) (by simpa using h)
    have e : lg (f + 1) want k = .ask lgA fun a => if a < want then lg f want (k + 1) else .ret [k] := rfl
    rw [e]
    simp only [Prog.told, Prog.rest, h1, if_true]
    refine ⟨i1, ?_⟩
    rw [i2]
    congr 1
    · simp
    · simp; omega
/-- One Step of it. -/
theorem lg_step (want n : Int) (l : List Int) (hx : ∀ x ∈ l, x < want) (h : l.length ≤ 60) : (n < want → stepR ((lg 62 want 0).rest l) l n = (.wait, ⟨l ++ [n], l.length + 1, true, n⟩)) ∧ (¬ n < want → stepR ((lg 62 want 0).rest l) l n = (.done [(l.length : Int)], ⟨l ++ [n], l.length + 1, true, n⟩)) := by
  rw [(lg_rest want l 62 0 hx (by omega)).2]
  obtain ⟨f, hf⟩ : ∃ f, 62 - l.length = f + 2 := ⟨60 - l.length, by omega⟩
  rw [hf, Int.zero_add]
  have e : lg (f + 2) want (l.length : Int) = .ask lgA fun a => if a < want then lg (f + 1) want ((l.length : Int) + 1) else .ret [(l.length : Int)] := rfl
  rw [e]
  refine ⟨fun hn => ?_, fun hn => ?_⟩
  · simp [stepR, lgA, hn, lg]
  · simp [stepR, lgA, hn]
def lgV (nb wb : Nat) : Value := .func (.func 19) #[] #[.pointer (some ⟨nb, 0, none⟩), .pointer (some ⟨wb, 0, none⟩)]
theorem Step_lg {w0 w : World} {nb wb tb : Nat} {want n : Int} {T : Th} (h : Heap w0 w ((lgPl nb wb tb want).F n T)) (hwork : T.work = lgV nb wb) (hdone : T.done = false) (hlog : ∀ x ∈ T.log, x < want) (hl : T.log.length ≤ 60) :
    (n < want → Calls Try.prog 12 #[.pointer (some ⟨tb, 0, none⟩)] w fun e z => ∃ T', e = .returned (.bool false) ∧ Heap w0 z ((lgPl nb wb tb want).F n T') ∧ T'.work = lgV nb wb ∧ T'.done = false ∧ T'.log = T.log ++ [n]) ∧
    (¬ n < want → Calls Try.prog 12 #[.pointer (some ⟨tb, 0, none⟩)] w fun e z => ∃ T' a c, e = .returned (.bool true) ∧ Heap w0 z ((lgPl nb wb tb want).F n T' ++ [rowP 2 1 (.slice a 1 c) 1 (intC [(T.log.length : Int)])]) ∧ T'.work = lgV nb wb ∧ T'.done = true ∧ T'.out = .slice a 1 c) := by
  have C := fun (hns : (stepR ((lg 62 want 0).rest T.log) T.log n).1 ≠ .stuck) => Step_task (pl := lgPl nb wb tb want) (Y := []) (s := n) (T := T) (by rw [List.append_nil]; exact h) 19 #[] #[.pointer (some ⟨nb, 0, none⟩), .pointer (some ⟨wb, 0, none⟩)] hwork hdone lg_enters (lg 62 want 0) (lg_rest want T.log 62 0 hlog (by omega)).1 hns
    (fun X z hz => by
      have := lgWork_calls 62 hz rfl ⟨Nat.zero_le _, by simp [Th.st]; omega, fun _ => ⟨by simp [Th.st]; omega, trivial⟩⟩ rfl (by simp; omega)
      exact this)
  obtain ⟨s1, s2⟩ := lg_step want n T.log hlog hl
  refine ⟨fun hn => ?_, fun hn => ?_⟩
  · have C1 := C (by rw [s1 hn]; intro x; cases x)
    rw [s1 hn] at C1
    refine C1.mono fun e z hp => ?_
    obtain ⟨rfl, H⟩ := hp
    exact ⟨{ T.of ⟨T.log ++ [n], T.log.length + 1, true, n⟩ with inn := false }, rfl, by rw [List.append_nil] at H; exact H, hwork, hdone, rfl⟩
  · have C1 := C (by rw [s2 hn]; intro x; cases x)
    rw [s2 hn] at C1
    refine C1.mono fun e z hp => ?_
    obtain ⟨a, c, rfl, H⟩ := hp
    exact ⟨{ T.of ⟨T.log ++ [n], T.log.length + 1, true, n⟩ with inn := false, done := true, out := .slice a 1 c }, a, c, rfl, by rw [List.append_nil] at H; exact H, hwork, rfl, rfl⟩
set_option maxHeartbeats 16000000 in
set_option maxRecDepth 100000 in
theorem ThreadLong_walk (v : Value) (bs : List Bool) (most : Int) (hmost : 0 ≤ most ∧ most ≤ 255) (w : World) (R0 : RdV w v bs.length 1 (bs.map Value.bool)) :
    Calls Try.prog 6 #[v, .int .u8 most] w fun e w' => e = .returned (.bool true) ∧ Below w.heap.size w w' := by
  have hm0 := R0.short
  unfold maxLen at hm0
  obtain ⟨pa, pc, rfl⟩ := R0.len
  have HR := Lib.hid R0
  clear R0
  obtain ⟨f0, f1⟩ := hmost
  have hmf : ∀ (fn : Fn) (first cap : Array Value) (z : World), (Instr.makeFunc fn first cap).run Try.prog z = .ok (.func fn first cap) z := fun _ _ _ _ => rfl
  obtain ⟨want, hwant⟩ : ∃ want : Int, most % 20 = want := ⟨_, rfl⟩
  have hw0 : 0 ≤ want ∧ want < 20 := by omega
  obtain ⟨hw0, hw1⟩ := hw0
  go_enter Try.func6, Try.ntmps6
  go_wp2_with fail
  refine (Awake_calls w _ (Fr.refl _ _)).mono ?_
  rintro e w1 ⟨rfl, F1⟩
  by_cases h60 : 60 < bs.length
  · go_wp2_with fail
    go_ret
    exact ⟨rfl, F1.below (Nat.le_refl _) (fun _ x => x.elim)⟩
  have H1 : Heap w w1 [] := (Heap.start w).go F1
  clear F1
  have HM := Lib.hid hm0
  clear hm0
  have H2 := (H1.alloc 2 #[.int .i64 0]).alloc 2 #[.int .i64 want]
  have hs : (w1.alloc (.cells #[.int .i64 0] 2)).heap.size = w1.heap.size + 1 := by simp
  rw [hs] at H2
  have HH := Lib.hid H2
  clear H1 H2 hs
  go_upto_region 6 with fail
  generalize hnb : w1.heap.size = nb at *
  generalize hwb : nb + 1 = wb at *
  clear hnb hwb
  generalize (w1.alloc (.cells #[.int .i64 0] 2)).alloc (.cells #[.int .i64 want] 2) = w2 at *
  go_wp2_with fail
  refine (New_h HH.out 19 #[] #[.pointer (some ⟨nb, 0, none⟩), .pointer (some ⟨wb, 0, none⟩)]).mono ?_
  generalize w2.heap.size = tb at *
  rintro e w3 ⟨rfl, H3⟩
  clear HH
  have H4 : Heap w w3 ((lgPl nb wb tb want).F 0 (newTh (lgV nb wb))) := H3
  have HH := Lib.hid H4
  clear H3 H4
  go_wp2_with fail
  go_loopw [8, 24] (fun ws i wr => ∃ (k m : Nat) (n : Int) (T : Th), i = .int .i64 (k : Nat) ∧ ws = .int .i64 (m : Nat) ∧ k ≤ bs.length ∧ m ≤ k ∧ 0 ≤ n ∧ n ≤ (k : Int) ∧ Hid (T.work = lgV nb wb ∧ T.done = false ∧ T.log.length = m) ∧ Hid (∀ x ∈ T.log, x < want) ∧ Hid (Heap w wr ((lgPl nb wb tb want).F n T))) (fun _ i _ => bs.length - (intOf i).toNat)
  case atStart => exact ⟨0, 0, 0, newTh (lgV nb wb), rfl, rfl, Nat.zero_le _, Nat.le_refl _, Int.le_refl _, Int.le_refl _, Lib.hid ⟨rfl, rfl, rfl⟩, Lib.hid (fun x hx => by simp [newTh] at hx), HH⟩
  case round =>
    clear HH
    obtain ⟨k, m, n, T, rfl, rfl, hk, hmk, hn0, hn1, HT, HL, HH⟩ := hrel
    obtain ⟨t1, t2, t3⟩ := HT.out
    by_cases hlt : k < bs.length
    · obtain ⟨b1, eb, hc1, hat1⟩ := (HR.out.fr HH.out.fr (fun _ _ _ (x : nob _) => x)).at (by omega)
      subst eb
      obtain ⟨b, hb⟩ : ∃ b, bs[k]? = some b := ⟨_, List.getElem?_eq_getElem hlt⟩
      have x1 : wr.cell? (b1.add k) = some (.bool b) := hat1 _ _ (by simp [hb])
      have c0 : wr.cell? ⟨nb, 0, none⟩ = some (.int .i64 n) := (HH.out.blk 0 rfl).cell 0
      have z0 := (HH.out.blk 0 (b := nb) (t := 2) (c := #[.int .i64 n]) rfl).froz 0
      have G : Hid (Heap w (wr.setCell ⟨nb, 0, none⟩ (.int .i64 (n + 1))) ((lgPl nb wb tb want).F (n + 1) T)) := Lib.hid (HH.out.setCell 0 (b := nb) (t := 2) (c := #[.int .i64 n]) rfl 0 (.int .i64 (n + 1)))
      clear hat1 hb hc1
      cases b with
      | false =>
        have T1 := Lib.hid (And.intro t1 (And.intro t2 t3))
        clear t1 t2 t3
        go_wp2_with fail
        refine ⟨⟨k + 1, m, n + 1, T, by go_num, rfl, by omega, by omega, by omega, by omega, T1.out, HL, G⟩, by simp [intOf]; omega⟩
      | true =>
        clear G c0 z0
        obtain ⟨S1, S2⟩ := Step_lg HH.out.drew t1 t2 HL.out (by omega)
        have q0 : wr.drew.cell? ⟨nb, 0, none⟩ = some (.int .i64 n) ∧ wr.drew.cell? ⟨wb, 0, none⟩ = some (.int .i64 want) := ⟨(HH.out.blk 0 rfl).cell 0, (HH.out.blk 1 rfl).cell 0⟩
        by_cases hn : n < want
        · have CC := Lib.hid (S1 hn)
          have T1 := Lib.hid (And.intro t1 (And.intro t2 t3))
          clear S1 S2 t1 t2 t3
          go_upto_region 13 with fail
          refine wp_region_noPanic ?_
          refine AnyK.start (ks := []) (S := fun w' => w'.cell? ⟨nb, 0, none⟩ = some (.int .i64 n) ∧ w'.cell? ⟨wb, 0, none⟩ = some (.int .i64 want)) (by kernel_rfl) (by exact q0) (fun _ => ?_)
          refine AnyK.take (i := 0) (v := ?_) rfl (by kernel_rfl) (by kernel_rfl) (by kernel_rfl) (by kernel_rfl) (fun _ _ _ h => h) (Or.inl ⟨by rfl, ?_⟩) (by exact q0) ?_
          rotate_left
          focus
            intro w9 hSw
            try dsimp only at hSw
            go_simp
            try with_reducible rfl
          try simp only [Act.put, List.setIfInBounds_toArray, List.set_cons_zero, List.set_cons_succ]
          refine AnyK.take (i := 2) (v := ?_) rfl (by kernel_rfl) (by kernel_rfl) (by kernel_rfl) (by kernel_rfl) (fun _ _ _ h => h) (Or.inl ⟨by rfl, ?_⟩) (by exact q0) ?_
          rotate_left
          focus
            intro w9 hSw
            try dsimp only at hSw
            go_simp
            try with_reducible rfl
          try simp only [Act.put, List.setIfInBounds_toArray, List.set_cons_zero, List.set_cons_succ]
          refine AnyK.take (i := 3) (v := ?_) rfl (by kernel_rfl) (by kernel_rfl) (by kernel_rfl) (by kernel_rfl) (fun _ _ _ h => h) (Or.inl ⟨by rfl, ?_⟩) (by exact q0) ?_
          rotate_left
          focus
            intro w9 hSw
            try dsimp only at hSw
            go_simp
            try with_reducible rfl
          try simp only [Act.put, List.setIfInBounds_toArray, List.set_cons_zero, List.set_cons_succ]
          refine AnyK.take (i := 4) (v := ?_) rfl (by kernel_rfl) (by kernel_rfl) (by kernel_rfl) (by kernel_rfl) (fun _ _ _ h => h) (Or.inl ⟨by rfl, ?_⟩) (by exact q0) ?_
          rotate_left
          focus
            intro w9 hSw
            try dsimp only at hSw
            go_simp
            try with_reducible rfl
          try simp only [Act.put, List.setIfInBounds_toArray, List.set_cons_zero, List.set_cons_succ]
          refine AnyK.one (i := 1) (by kernel_rfl) rfl (fun K9 hK9 => ?_)
          go_simp
          refine CC.out.mono ?_
          rintro e z1 ⟨T', rfl, H1, a1, a2, a3⟩
          have q1 := And.intro (show z1.cell? ⟨nb, 0, none⟩ = some (.int .i64 n) from (H1.blk 0 rfl).cell 0) (show z1.cell? ⟨wb, 0, none⟩ = some (.int .i64 want) from (H1.blk 1 rfl).cell 0)
          refine hK9.out _ _ (fun _ => q1) ?_
          clear hK9 K9
          try simp only [Act.put, List.setIfInBounds_toArray, List.set_cons_zero, List.set_cons_succ]
          refine AnyK.one (i := 5) (by kernel_rfl) rfl (fun K9 hK9 => ?_)
          go_simp
          refine hK9.out _ _ (fun _ => q1) ?_
          clear hK9 K9
          try simp only [Act.put, List.setIfInBounds_toArray, List.set_cons_zero, List.set_cons_succ]
          refine AnyK.done (by kernel_rfl) ?_ _
          refine NoPanic.normal ?_
          have DN := Done_h H1 2 (tb := tb) (T := T') rfl 19 #[] #[.pointer (some ⟨nb, 0, none⟩), .pointer (some ⟨wb, 0, none⟩)] a1
          rw [a2] at DN
          have DD := Lib.hid DN
          have HH1 := Lib.hid H1
          have HA := Lib.hid (And.intro a1 (And.intro a2 a3))
          clear DN H1 a1 a2 a3 CC
          go_wp2_with fail
          refine DD.out.mono ?_
          rintro e w' ⟨rfl, hw⟩
          have hw := hw.symm
          subst hw
          go_wp2_with fail
          obtain ⟨a1, a2, a3⟩ := HA.out
          refine ⟨⟨k + 1, m + 1, n, T', by go_num, by go_num, by omega, by omega, by omega, by omega, Lib.hid ⟨a1, a2, by rw [a3, List.length_append, T1.out.2.2]; rfl⟩, Lib.hid (fun x hx => ?_), HH1⟩, by simp [intOf]; omega⟩
          rw [a3] at hx
          rcases List.mem_append.1 hx with hx | hx
          · exact HL.out x hx
          · simp at hx; subst hx; exact hn
        · have hge : want ≤ n := by omega
          have CC := Lib.hid (S2 hn)
          have T1 := Lib.hid (And.intro t1 (And.intro t2 t3))
          clear S1 S2 t1 t2
          rw [t3] at CC
          clear t3
          go_upto_region 13 with fail
          refine wp_region_noPanic ?_
          refine AnyK.start (ks := []) (S := fun w' => w'.cell? ⟨nb, 0, none⟩ = some (.int .i64 n) ∧ w'.cell? ⟨wb, 0, none⟩ = some (.int .i64 want)) (by kernel_rfl) (by exact q0) (fun _ => ?_)
          refine AnyK.take (i := 0) (v := ?_) rfl (by kernel_rfl) (by kernel_rfl) (by kernel_rfl) (by kernel_rfl) (fun _ _ _ h => h) (Or.inl ⟨by rfl, ?_⟩) (by exact q0) ?_
          rotate_left
          focus
            intro w9 hSw
            try dsimp only at hSw
            go_simp
            try with_reducible rfl
          try simp only [Act.put, List.setIfInBounds_toArray, List.set_cons_zero, List.set_cons_succ]
          refine AnyK.take (i := 2) (v := ?_) rfl (by kernel_rfl) (by kernel_rfl) (by kernel_rfl) (by kernel_rfl) (fun _ _ _ h => h) (Or.inl ⟨by rfl, ?_⟩) (by exact q0) ?_
          rotate_left
          focus
            intro w9 hSw
            try dsimp only at hSw
            go_simp
            try with_reducible rfl
          try simp only [Act.put, List.setIfInBounds_toArray, List.set_cons_zero, List.set_cons_succ]
          refine AnyK.take (i := 3) (v := ?_) rfl (by kernel_rfl) (by kernel_rfl) (by kernel_rfl) (by kernel_rfl) (fun _ _ _ h => h) (Or.inl ⟨by rfl, ?_⟩) (by exact q0) ?_
          rotate_left
          focus
            intro w9 hSw
            try dsimp only at hSw
            go_simp
            try with_reducible rfl
          try simp only [Act.put, List.setIfInBounds_toArray, List.set_cons_zero, List.set_cons_succ]
          refine AnyK.take (i := 4) (v := ?_) rfl (by kernel_rfl) (by kernel_rfl) (by kernel_rfl) (by kernel_rfl) (fun _ _ _ h => h) (Or.inl ⟨by rfl, ?_⟩) (by exact q0) ?_
          rotate_left
          focus
            intro w9 hSw
            try dsimp only at hSw
            go_simp
            try with_reducible rfl
          try simp only [Act.put, List.setIfInBounds_toArray, List.set_cons_zero, List.set_cons_succ]
          refine AnyK.one (i := 1) (by kernel_rfl) rfl (fun K9 hK9 => ?_)
          go_simp
          refine CC.out.mono ?_
          rintro e z1 ⟨T', a, c, rfl, H1, a1, a2, a3⟩
          have q1 := And.intro (show z1.cell? ⟨nb, 0, none⟩ = some (.int .i64 n) from (H1.blk 0 rfl).cell 0) (show z1.cell? ⟨wb, 0, none⟩ = some (.int .i64 want) from (H1.blk 1 rfl).cell 0)
          refine hK9.out _ _ (fun _ => q1) ?_
          clear hK9 K9
          try simp only [Act.put, List.setIfInBounds_toArray, List.set_cons_zero, List.set_cons_succ]
          refine AnyK.one (i := 5) (by kernel_rfl) rfl (fun K9 hK9 => ?_)
          go_simp
          refine hK9.out _ _ (fun _ => q1) ?_
          clear hK9 K9
          try simp only [Act.put, List.setIfInBounds_toArray, List.set_cons_zero, List.set_cons_succ]
          refine AnyK.done (by kernel_rfl) ?_ _
          refine NoPanic.normal ?_
          have DN := Done_h H1 2 (tb := tb) (T := T') rfl 19 #[] #[.pointer (some ⟨nb, 0, none⟩), .pointer (some ⟨wb, 0, none⟩)] a1
          rw [a2] at DN
          have DD := Lib.hid DN
          have OO := Lib.hid (Out_some H1 2 (tb := tb) (T := T') rfl a2 a 1 c a3 [(m : Int)] (H1.row 3 rfl).rdv (by decide))
          clear DN H1 a1 a2 a3 CC
          go_wp2_with fail
          refine DD.out.mono ?_
          rintro e w' ⟨rfl, hw⟩
          have hw := hw.symm
          subst hw
          go_wp2_with fail
          refine OO.out.mono ?_
          rintro e z2 ⟨o2, c2, rfl, H2⟩
          obtain ⟨g, off, cur, rfl, _, hcap, hat⟩ := (H2.row 4 rfl).at (by decide)
          have y0 : z2.cell? ⟨g, off + 0, none⟩ = some (.int .i64 (m : Int)) := hat 0 _ rfl
          rw [Nat.add_zero] at y0
          have y1 : z2.cell? ⟨nb, 0, none⟩ = some (.int .i64 n) := (H2.blk 0 rfl).cell 0
          have y2 : z2.cell? ⟨wb, 0, none⟩ = some (.int .i64 want) := (H2.blk 1 rfl).cell 0
          have HB := Lib.hid H2.below
          clear hat H2 OO DD
          go_wp2_with fail
          go_ret
          exact ⟨rfl, HB.out⟩
    · have DN := Done_h HH.out 2 (tb := tb) (T := T) rfl 19 #[] #[.pointer (some ⟨nb, 0, none⟩), .pointer (some ⟨wb, 0, none⟩)] t1
      rw [t2] at DN
      have ST := Steps_h HH.out 2 (tb := tb) (T := T) rfl
      rw [t3] at ST
      have DD := Lib.hid DN
      have SS := Lib.hid ST
      clear DN ST t1 t2 t3
      go_wp2_with fail
      refine DD.out.mono ?_
      rintro e w' ⟨rfl, hw⟩
      have hw := hw.symm
      subst hw
      go_wp2_with fail
      refine SS.out.mono ?_
      rintro e w' ⟨rfl, hw⟩
      have hw := hw.symm
      subst hw
      go_wp2_with fail
      go_ret
      exact ⟨rfl, HH.out.below⟩
end Go.Proofs.Ytblijgdmfohfcaa
