/- The world's tasks: Begin. No condition but the bounds of size. -/
import Derived.Test.YthkohomogknddaaTsk
import Derived.Deep.DeepCutAuto
import Derived.Deep.LoopGhost
namespace Go.Proofs.Ythkohomogknddaa
open Go Go.RowKit
set_option linter.unusedVariables false
set_option linter.unusedSimpArgs false
set_option maxRecDepth 100000
theorem say_len (t n : Int) (s : Wd) : (aSay t n s).2.ep.said.length = s.ep.said.length := by
  unfold aSay sayEp; dsimp only; split <;> simp
section
variable {w0 w : World} {pl : Pl Wd} {X : List Piece} {s : Wd} {T : Th} {c : Wc} {tk nk N : Nat} {me now : Int} {x : Tst Wd}
set_option maxHeartbeats 4000000 in
theorem Begin_task (wp : WdPl pl c) (h : Heap w0 w (pl.F x.sh (T.of x) ++ X)) (hin : T.inn = true) (hf : FitW N x) (hN' : N ≤ 50000) (F n : Nat) (hn : x.sh.ep.said.length = n) (hr : x.spent = false → ∀ n ∈ x.log, inR n) (hns : ((beginP me n F).run x).1 ≠ .stuck) :
    Calls Try.prog 22 #[tkV pl.tb c.wb me] w (TaskP pl w0 X T N unitR ((beginP me n F).run x)) := by
  have h1 := h.alloc 41 #[.pointer (some ⟨pl.tb, 0, none⟩), .pointer (some ⟨c.wb, 0, none⟩), .int .i64 me]
  rw [List.append_assoc] at h1
  generalize hH : w.heap.size = b0 at *
  generalize hz : (w.alloc (.cells #[.pointer (some ⟨pl.tb, 0, none⟩), .pointer (some ⟨c.wb, 0, none⟩), .int .i64 me] 41)) = z at *
  have hs : b0 < z.heap.size := by rw [← hz]; simp; omega
  generalize hP : (beginP me n F).run x = res at *
  have hd := h1.drew
  obtain ⟨k0, k1, k2⟩ := tk_cells (tk := b0) (me := me) (tb := pl.tb) (wb := c.wb) hd X.length (by simp [tkP])
  obtain ⟨v0, v1, v2, v3, v4, v5⟩ := wd_cells wp hd
  have hb := hd.alloc 2 #[.int .i64 0]
  rw [List.append_assoc] at hb
  have C := Do_wd hb hin hf 23 #[.pointer (some ⟨c.eb, 0, none⟩)] #[] now_enters aNow (fun T z _ _ hz => now_touch wp hz)
  have C0 := Do_wd hd hin hf 23 #[.pointer (some ⟨c.eb, 0, none⟩)] #[] now_enters aNow (fun T z _ _ hz => now_touch wp hz)
  rcases ha : askT aNow x with ⟨r, x1⟩
  rw [ha] at C C0
  have QA : (z.drew.alloc (.cells #[.int .i64 0] 2)).cell? ⟨b0, 0, none⟩ = some (.pointer (some ⟨pl.tb, 0, none⟩)) ∧ (z.drew.alloc (.cells #[.int .i64 0] 2)).cell? ⟨b0, 1, none⟩ = some (.pointer (some ⟨c.wb, 0, none⟩)) ∧ (z.drew.alloc (.cells #[.int .i64 0] 2)).cell? ⟨c.wb, 2, none⟩ = some (.pointer (some ⟨c.eb, 0, none⟩)) := ⟨((Fr.refl nob _).alloc _).cell' k0 (fun x => x), ((Fr.refl nob _).alloc _).cell' k1 (fun x => x), ((Fr.refl nob _).alloc _).cell' v2 (fun x => x)⟩
  have q0 : z.drew.cell? ⟨b0, 0, none⟩ = some (.pointer (some ⟨pl.tb, 0, none⟩)) ∧ z.drew.cell? ⟨b0, 1, none⟩ = some (.pointer (some ⟨c.wb, 0, none⟩)) ∧ z.drew.cell? ⟨c.wb, 2, none⟩ = some (.pointer (some ⟨c.eb, 0, none⟩)) := ⟨k0, k1, v2⟩
  have CC := Lib.hid (And.intro C C0)
  clear C C0 h h1 hd hb k0 k1 k2 v0 v1 v2 v3 v4 v5
  unfold tkV
  have hmf : ∀ (fn : Fn) (first cap : Array Value) (z : World), (Instr.makeFunc fn first cap).run Try.prog z = .ok (.func fn first cap) z := fun _ _ _ _ => rfl
  cases r with
  | none =>
    have hP2 : (.wait, x1) = res := (Wk.run_none (k := fun now => .ask (aSay me now) fun _ => (saids n 0 now).bind fun all => (goOn all now).bind fun _ => .ask aNow fun now2 => ones F me now2) ha).symm.trans hP
    have HP := Lib.hid hP2
    clear hP hP2
    go_enter Try.func22, Try.ntmps22
    go_upto_region 1 with fail
    refine AnyK.start (ks := [8, 10]) (S := fun w' => w'.cell? ⟨b0, 0, none⟩ = some (.pointer (some ⟨pl.tb, 0, none⟩)) ∧ w'.cell? ⟨b0, 1, none⟩ = some (.pointer (some ⟨c.wb, 0, none⟩)) ∧ w'.cell? ⟨c.wb, 2, none⟩ = some (.pointer (some ⟨c.eb, 0, none⟩))) (by kernel_rfl) (by exact q0) (fun _ => ?_)
    refine AnyK.takeB (i := 0) (v := ?_) rfl (by kernel_rfl) (by kernel_rfl) (by kernel_rfl) (by kernel_rfl) (fun _ _ _ h => h) (Or.inl ⟨by rfl, ?_⟩) (by exact q0) ?_
    rotate_left
    focus
      intro w9 hSw
      try dsimp only at hSw
      go_simp
      try with_reducible rfl
    try simp only [Act.put, List.setIfInBounds_toArray, List.set_cons_zero, List.set_cons_succ]
    refine AnyK.takeB (i := 1) (v := ?_) rfl (by kernel_rfl) (by kernel_rfl) (by kernel_rfl) (by kernel_rfl) (fun _ _ _ h => h) (Or.inl ⟨by rfl, ?_⟩) (by exact q0) ?_
    rotate_left
    focus
      intro w9 hSw
      try dsimp only at hSw
      go_simp
      try with_reducible rfl
    try simp only [Act.put, List.setIfInBounds_toArray, List.set_cons_zero, List.set_cons_succ]
    refine AnyK.takeB (i := 2) (v := ?_) rfl (by kernel_rfl) (by kernel_rfl) (by kernel_rfl) (by kernel_rfl) (fun _ _ _ h => h) (Or.inl ⟨by rfl, ?_⟩) (by exact q0) ?_
    rotate_left
    focus
      intro w9 hSw
      try dsimp only at hSw
      go_simp
      try with_reducible rfl
    try simp only [Act.put, List.setIfInBounds_toArray, List.set_cons_zero, List.set_cons_succ]
    refine AnyK.takeB (i := 3) (v := ?_) rfl (by kernel_rfl) (by kernel_rfl) (by kernel_rfl) (by kernel_rfl) (fun _ _ _ h => h) (Or.inl ⟨by rfl, ?_⟩) (by exact q0) ?_
    rotate_left
    focus
      intro w9 hSw
      try dsimp only at hSw
      go_simp
      try with_reducible rfl
    try simp only [Act.put, List.setIfInBounds_toArray, List.set_cons_zero, List.set_cons_succ]
    refine AnyK.takeB (i := 4) (v := ?_) rfl (by kernel_rfl) (by kernel_rfl) (by kernel_rfl) (by kernel_rfl) (fun _ _ _ h => h) (Or.inl ⟨by rfl, ?_⟩) (by exact q0) ?_
    rotate_left
    focus
      intro w9 hSw
      try dsimp only at hSw
      go_simp
      try with_reducible rfl
    try simp only [Act.put, List.setIfInBounds_toArray, List.set_cons_zero, List.set_cons_succ]
    refine AnyK.takeB (i := 5) (v := ?_) rfl (by kernel_rfl) (by kernel_rfl) (by kernel_rfl) (by kernel_rfl) (fun _ _ _ h => h) (Or.inl ⟨by rfl, ?_⟩) (by exact q0) ?_
    rotate_left
    focus
      intro w9 hSw
      try dsimp only at hSw
      go_simp
      try with_reducible rfl
    try simp only [Act.put, List.setIfInBounds_toArray, List.set_cons_zero, List.set_cons_succ]
    refine AnyK.takeB (i := 6) (v := ?_) rfl (by kernel_rfl) (by kernel_rfl) (by kernel_rfl) (by kernel_rfl) (fun _ _ _ h => h) (Or.inl ⟨by rfl, ?_⟩) (by exact q0) ?_
    rotate_left
    focus
      intro w9 hSw
      try dsimp only at hSw
      go_simp
      try with_reducible rfl
    try simp only [Act.put, List.setIfInBounds_toArray, List.set_cons_zero, List.set_cons_succ]
    refine AnyK.takeB (i := 7) (v := ?_) rfl (by kernel_rfl) (by kernel_rfl) (by kernel_rfl) (by kernel_rfl) (fun _ _ _ h => h) (Or.inl ⟨by rfl, ?_⟩) (by exact q0) ?_
    rotate_left
    focus
      intro w9 hSw
      try dsimp only at hSw
      go_simp
      try with_reducible rfl
    try simp only [Act.put, List.setIfInBounds_toArray, List.set_cons_zero, List.set_cons_succ]
    refine AnyK.two (i := 8) (j := 9) (by kernel_rfl) rfl rfl (fun K9 hK9 => ?_) (fun K9 hK9 => ?_)
    · go_simp
      refine CC.out.2.mono ?_
      rintro e w' ⟨rfl, H⟩
      change bodyPost Try.prog Try.f22 _ (Exit.panic [waitE]) _ _
      rw [← HP.out]
      exact ⟨rfl, rfl, by first | exact H.dropX | exact H.dropX.dropX⟩
    · go_simp
      refine hK9.out _ _ (fun _ => QA) ?_
      clear hK9 K9
      try simp only [Act.put, List.setIfInBounds_toArray, List.set_cons_zero, List.set_cons_succ]
      refine AnyK.one (i := 8) (by kernel_rfl) rfl (fun K9 hK9 => ?_)
      go_simp
      refine CC.out.1.mono ?_
      rintro e w' ⟨rfl, H⟩
      change bodyPost Try.prog Try.f22 _ (Exit.panic [waitE]) _ _
      rw [← HP.out]
      exact ⟨rfl, rfl, by first | exact H.dropX | exact H.dropX.dropX⟩
  | some now =>
    have hP2 : (Wk.ask (aSay me now) fun _ => (saids n 0 now).bind fun all => (goOn all now).bind fun _ => .ask aNow fun now2 => ones F me now2).run x1 = res := (Wk.run_some (k := fun now => .ask (aSay me now) fun _ => (saids n 0 now).bind fun all => (goOn all now).bind fun _ => .ask aNow fun now2 => ones F me now2) ha).symm.trans hP
    have HP := Lib.hid hP2
    have HF := Lib.hid (hf.ask good_now ha)
    have HM := Lib.hid (askT_mem ha)
    clear hP hP2
    go_enter Try.func22, Try.ntmps22
    go_upto_region 1 with fail
    go_cut [2] (fun s2 wx => ∃ nb : Nat, s2 = .pointer (some ⟨nb, 0, none⟩) ∧ Heap w0 wx (pl.F x1.sh (T.of x1) ++ (X ++ [tkP pl.tb c.wb b0 me, blkP nb 2 #[.int .i64 now]])))
    case first =>
      refine AnyK.start (ks := [8, 10]) (S := fun w' => w'.cell? ⟨b0, 0, none⟩ = some (.pointer (some ⟨pl.tb, 0, none⟩)) ∧ w'.cell? ⟨b0, 1, none⟩ = some (.pointer (some ⟨c.wb, 0, none⟩)) ∧ w'.cell? ⟨c.wb, 2, none⟩ = some (.pointer (some ⟨c.eb, 0, none⟩))) (by kernel_rfl) (by exact q0) (fun _ => ?_)
      refine AnyK.takeB (i := 0) (v := ?_) rfl (by kernel_rfl) (by kernel_rfl) (by kernel_rfl) (by kernel_rfl) (fun _ _ _ h => h) (Or.inl ⟨by rfl, ?_⟩) (by exact q0) ?_
      rotate_left
      focus
        intro w9 hSw
        try dsimp only at hSw
        go_simp
        try with_reducible rfl
      try simp only [Act.put, List.setIfInBounds_toArray, List.set_cons_zero, List.set_cons_succ]
      refine AnyK.takeB (i := 1) (v := ?_) rfl (by kernel_rfl) (by kernel_rfl) (by kernel_rfl) (by kernel_rfl) (fun _ _ _ h => h) (Or.inl ⟨by rfl, ?_⟩) (by exact q0) ?_
      rotate_left
      focus
        intro w9 hSw
        try dsimp only at hSw
        go_simp
        try with_reducible rfl
      try simp only [Act.put, List.setIfInBounds_toArray, List.set_cons_zero, List.set_cons_succ]
      refine AnyK.takeB (i := 2) (v := ?_) rfl (by kernel_rfl) (by kernel_rfl) (by kernel_rfl) (by kernel_rfl) (fun _ _ _ h => h) (Or.inl ⟨by rfl, ?_⟩) (by exact q0) ?_
      rotate_left
      focus
        intro w9 hSw
        try dsimp only at hSw
        go_simp
        try with_reducible rfl
      try simp only [Act.put, List.setIfInBounds_toArray, List.set_cons_zero, List.set_cons_succ]
      refine AnyK.takeB (i := 3) (v := ?_) rfl (by kernel_rfl) (by kernel_rfl) (by kernel_rfl) (by kernel_rfl) (fun _ _ _ h => h) (Or.inl ⟨by rfl, ?_⟩) (by exact q0) ?_
      rotate_left
      focus
        intro w9 hSw
        try dsimp only at hSw
        go_simp
        try with_reducible rfl
      try simp only [Act.put, List.setIfInBounds_toArray, List.set_cons_zero, List.set_cons_succ]
      refine AnyK.takeB (i := 4) (v := ?_) rfl (by kernel_rfl) (by kernel_rfl) (by kernel_rfl) (by kernel_rfl) (fun _ _ _ h => h) (Or.inl ⟨by rfl, ?_⟩) (by exact q0) ?_
      rotate_left
      focus
        intro w9 hSw
        try dsimp only at hSw
        go_simp
        try with_reducible rfl
      try simp only [Act.put, List.setIfInBounds_toArray, List.set_cons_zero, List.set_cons_succ]
      refine AnyK.takeB (i := 5) (v := ?_) rfl (by kernel_rfl) (by kernel_rfl) (by kernel_rfl) (by kernel_rfl) (fun _ _ _ h => h) (Or.inl ⟨by rfl, ?_⟩) (by exact q0) ?_
      rotate_left
      focus
        intro w9 hSw
        try dsimp only at hSw
        go_simp
        try with_reducible rfl
      try simp only [Act.put, List.setIfInBounds_toArray, List.set_cons_zero, List.set_cons_succ]
      refine AnyK.takeB (i := 6) (v := ?_) rfl (by kernel_rfl) (by kernel_rfl) (by kernel_rfl) (by kernel_rfl) (fun _ _ _ h => h) (Or.inl ⟨by rfl, ?_⟩) (by exact q0) ?_
      rotate_left
      focus
        intro w9 hSw
        try dsimp only at hSw
        go_simp
        try with_reducible rfl
      try simp only [Act.put, List.setIfInBounds_toArray, List.set_cons_zero, List.set_cons_succ]
      refine AnyK.takeB (i := 7) (v := ?_) rfl (by kernel_rfl) (by kernel_rfl) (by kernel_rfl) (by kernel_rfl) (fun _ _ _ h => h) (Or.inl ⟨by rfl, ?_⟩) (by exact q0) ?_
      rotate_left
      focus
        intro w9 hSw
        try dsimp only at hSw
        go_simp
        try with_reducible rfl
      try simp only [Act.put, List.setIfInBounds_toArray, List.set_cons_zero, List.set_cons_succ]
      refine AnyK.two (i := 8) (j := 9) (by kernel_rfl) rfl rfl (fun K9 hK9 => ?_) (fun K9 hK9 => ?_)
      · go_simp
        refine CC.out.2.mono ?_
        rintro e w' ⟨rfl, H⟩
        obtain ⟨k0, k1, k2⟩ := tk_cells (tk := b0) (me := me) (tb := pl.tb) (wb := c.wb) H X.length (by simp [tkP])
        obtain ⟨v0, v1, v2, v3, v4, v5⟩ := wd_cells wp H
        refine hK9.out _ _ (fun hx => absurd (by decide) hx) ?_
        clear hK9 K9
        try simp only [Act.put, List.setIfInBounds_toArray, List.set_cons_zero, List.set_cons_succ]
        refine AnyK.one (i := 9) (by kernel_rfl) rfl (fun K9 hK9 => ?_)
        go_simp
        refine hK9.out _ _ (fun _ => ⟨((Fr.refl nob _).alloc _).cell' k0 (fun x => x), ((Fr.refl nob _).alloc _).cell' k1 (fun x => x), ((Fr.refl nob _).alloc _).cell' v2 (fun x => x)⟩) ?_
        clear hK9 K9
        try simp only [Act.put, List.setIfInBounds_toArray, List.set_cons_zero, List.set_cons_succ]
        refine AnyK.one (i := 10) (by kernel_rfl) rfl (fun K9 hK9 => ?_)
        go_simp
        refine hK9.out _ _ (fun hx => absurd (by decide) hx) ?_
        clear hK9 K9
        try simp only [Act.put, List.setIfInBounds_toArray, List.set_cons_zero, List.set_cons_succ]
        refine AnyK.done (by kernel_rfl) ?_ _
        go_wp2_with fail
        go_meet
        have HA := H.alloc 2 #[.int .i64 now]
        rw [List.append_assoc, List.append_assoc] at HA
        exact ⟨_, rfl, HA⟩
      · go_simp
        refine hK9.out _ _ (fun _ => QA) ?_
        clear hK9 K9
        try simp only [Act.put, List.setIfInBounds_toArray, List.set_cons_zero, List.set_cons_succ]
        refine AnyK.one (i := 8) (by kernel_rfl) rfl (fun K9 hK9 => ?_)
        go_simp
        refine CC.out.1.mono ?_
        rintro e w' ⟨rfl, H⟩
        have BN := x_blk (b := z.heap.size) (t := 2) (cs := #[.int .i64 0]) H (X.length + 1) (by simp)
        have cN : w'.cell? ⟨z.heap.size, 0, none⟩ = some (.int .i64 0) := BN.cell 0
        have zN := BN.froz 0
        refine hK9.out _ _ (fun hx => absurd (by decide) hx) ?_
        clear hK9 K9
        try simp only [Act.put, List.setIfInBounds_toArray, List.set_cons_zero, List.set_cons_succ]
        refine AnyK.one (i := 10) (by kernel_rfl) rfl (fun K9 hK9 => ?_)
        go_simp
        refine hK9.out _ _ (fun hx => absurd (by decide) hx) ?_
        clear hK9 K9
        try simp only [Act.put, List.setIfInBounds_toArray, List.set_cons_zero, List.set_cons_succ]
        refine AnyK.done (by kernel_rfl) ?_ _
        go_wp2_with fail
        go_meet
        have HA := H.setX (b := z.heap.size) (t := 2) (cs := #[.int .i64 0]) (X.length + 1) (by simp) 0 (.int .i64 now)
        rw [List.append_assoc, List.set_append_right _ _ (by omega)] at HA
        simp only [Nat.add_sub_cancel_left] at HA
        exact ⟨_, rfl, HA⟩
    case rest =>
      obtain ⟨nb, rfl, H2⟩ := hcut
      have HSp : Hid (x1.spent = false → ∀ n ∈ x1.log, inR n) := Lib.hid (sp_ask hr ha)
      have hn1 : x1.sh.ep.said.length = n := by rcases askT_sh ha with h | h <;> rw [h] <;> exact hn
      have C := Do_wd H2 hin HF.out 70 #[] #[.pointer (some ⟨b0, 0, none⟩), .pointer (some ⟨nb, 0, none⟩)] say_enters (aSay me now) (fun T z _ _ hz => say_touch wp hz X.length (by simp [tkP]) (X.length + 1) (by simp))
      obtain ⟨k0, k1, k2⟩ := tk_cells (tk := b0) (me := me) (tb := pl.tb) (wb := c.wb) H2 X.length (by simp [tkP])
      rcases ha2 : askT (aSay me now) x1 with ⟨r, x2⟩
      rw [ha2] at C
      have hP2 := HP.out
      have CC := Lib.hid C
      clear C H2 HP q0 QA
      cases r with
      | none =>
        have HP : Hid ((.wait, x2) = res) := Lib.hid ((Wk.run_none (k := fun _ => (saids n 0 now).bind fun all => (goOn all now).bind fun _ => .ask aNow fun now2 => ones F me now2) ha2).symm.trans hP2)
        clear hP2
        go_wp2_with fail
        refine CC.out.mono ?_
        rintro e w' ⟨rfl, H⟩
        change bodyPost Try.prog Try.f22 _ (Exit.panic [waitE]) _ _
        rw [← HP.out]
        exact ⟨rfl, rfl, by first | exact H.dropX | exact H.dropX.dropX⟩
      | some y2 =>
        have HP : Hid (((saids n 0 now).bind fun all => (goOn all now).bind fun _ => .ask aNow fun now2 => ones F me now2).run x2 = res) := Lib.hid ((Wk.run_some (k := fun _ => (saids n 0 now).bind fun all => (goOn all now).bind fun _ => .ask aNow fun now2 => ones F me now2) ha2).symm.trans hP2)
        have HF2 := Lib.hid (HF.out.ask (good_say me now) ha2)
        have HSp2 := Lib.hid (sp_ask HSp.out ha2)
        have hn2 : x2.sh.ep.said.length = n := by rcases askT_sh ha2 with h | h <;> rw [h] <;> (try exact hn1); rw [say_len]; exact hn1
        clear hP2 HF HSp
        go_wp2_with fail
        refine CC.out.mono ?_
        rintro e w2 ⟨rfl, H⟩
        clear CC k0 k1 k2
        obtain ⟨k0, k1, k2⟩ := tk_cells (tk := b0) (me := me) (tb := pl.tb) (wb := c.wb) H X.length (by simp [tkP])
        obtain ⟨v0, v1, v2, v3, v4, v5⟩ := wd_cells wp H
        have CL := Lib.hid (Len_h H (wp.wi + 3) (get_left (wp.g3 _ _)))
        have HH := Lib.hid H
        clear H
        go_wp2_with fail
        refine CL.out.mono ?_
        rintro e w' ⟨rfl, hw⟩
        have hw := hw.symm
        subst hw
        rw [hn2]
        have HLE : n ≤ 64 := by obtain ⟨S, hS, _⟩ := HH.out.get (wp.wi + 3) (get_left (wp.g3 _ _)); rw [← hn2]; exact hS.few
        clear k0 k1 k2 v0 v1 v2 v3 v4 v5 CL hn2 hn1
        go_wp2_with fail
        go_loopw [3, 25] (fun sa i wr => ∃ (k : Nat) (x3 : Tst Wd), i = .int .i64 (k : Nat) ∧ k ≤ n ∧ sa = .bool true ∧ Hid (((saids (n - k) k now).bind fun all => (goOn all now).bind fun _ => .ask aNow fun now2 => ones F me now2).run x3 = res) ∧ Hid (FitW N x3) ∧ Hid (x3.spent = false → ∀ n ∈ x3.log, inR n) ∧ Hid (Heap w0 wr (pl.F x3.sh (T.of x3) ++ (X ++ [tkP pl.tb c.wb b0 me, blkP nb 2 #[.int .i64 now]])))) (fun _ i _ => n - (intOf i).toNat)
        case atStart => exact ⟨0, x2, rfl, Nat.zero_le _, rfl, by simpa using HP, HF2, HSp2, HH⟩
        case round =>
          clear HH HP HF2 HSp2
          obtain ⟨k, x3, rfl, hk, rfl, HP, HF, HSp, HH⟩ := hrel
          by_cases hlt : k < n
          · obtain ⟨m, hm⟩ : ∃ m, n - k = m + 1 := ⟨n - k - 1, by omega⟩
            have HB := HH.out.alloc 3 #[.int .i64 (k : Nat)]
            rw [List.append_assoc] at HB
            generalize hkb : wr.heap.size = kb at *
            have C := Do_wd HB hin HF.out 71 #[] #[.pointer (some ⟨b0, 0, none⟩), .pointer (some ⟨kb, 0, none⟩)] said_enters (aSaid k) (fun T z _ _ hz => said_touch (me := me) wp hz X.length (by simp [tkP]) (X.length + 2) k (by simp))
            obtain ⟨k0, k1, k2⟩ := tk_cells (tk := b0) (me := me) (tb := pl.tb) (wb := c.wb) HB X.length (by simp [tkP])
            rcases ha3 : askT (aSaid k) x3 with ⟨r, x4⟩
            rw [ha3] at C
            have hP3 := HP.out
            rw [hm] at hP3
            have CC := Lib.hid C
            have HKB := Lib.hid hkb
            clear C HB HP
            cases r with
            | none =>
              have HP : Hid ((.wait, x4) = res) := Lib.hid ((Wk.run_none (k := fun a => (if a ≠ -1 ∧ a ≠ now then .ret false else saids m (k + 1) now).bind fun all => (goOn all now).bind fun _ => .ask aNow fun now2 => ones F me now2) ha3).symm.trans hP3)
              clear hP3
              go_wp2_with fail
              refine CC.out.mono ?_
              rintro e w' ⟨rfl, H⟩
              change bodyPost Try.prog Try.f22 _ (Exit.panic [waitE]) _ _
              rw [← HP.out]
              exact ⟨rfl, rfl, by first | exact H.dropX | exact H.dropX.dropX⟩
            | some a =>
              have HP : Hid (((if a ≠ -1 ∧ a ≠ now then .ret false else saids m (k + 1) now : Wk Bool).bind fun all => (goOn all now).bind fun _ => .ask aNow fun now2 => ones F me now2).run x4 = res) := Lib.hid ((Wk.run_some (k := fun a => (if a ≠ -1 ∧ a ≠ now then .ret false else saids m (k + 1) now).bind fun all => (goOn all now).bind fun _ => .ask aNow fun now2 => ones F me now2) ha3).symm.trans hP3)
              have HF4 := Lib.hid (HF.out.ask (good_said k) ha3)
              have HSp4 := Lib.hid (sp_ask HSp.out ha3)
              clear hP3 HF HSp
              go_wp2_with fail
              refine CC.out.mono ?_
              rintro e w' ⟨rfl, H⟩
              have kn : w'.cell? ⟨nb, 0, none⟩ = some (.int .i64 now) := (x_blk (b := nb) (t := 2) (cs := #[.int .i64 now]) H (X.length + 1) (by simp)).cell 0
              have HX := Lib.hid H.dropX
              clear H CC k0 k1 k2 HH
              by_cases hc : a ≠ -1 ∧ a ≠ now
              · have b1 : (a != -1) = true := by simpa using hc.1
                have b2 : (a != now) = true := by simpa using hc.2
                have hP4 := HP.out
                rw [if_pos hc] at hP4
                have hP5 : (Wk.ask aNow fun now2 => ones F me now2).run x4 = res := hP4
                have HP := Lib.hid hP5
                have HC := Lib.hid hc
                have HH := HX
                clear hP4 hP5 HX hc
                have H := HH.out
                clear HH
                have hd := H.drew
                obtain ⟨k0, k1, k2⟩ := tk_cells (tk := b0) (me := me) (tb := pl.tb) (wb := c.wb) hd X.length (by simp [tkP])
                obtain ⟨v0, v1, v2, v3, v4, v5⟩ := wd_cells wp hd
                have C := Do_wd hd hin HF4.out 23 #[.pointer (some ⟨c.eb, 0, none⟩)] #[] now_enters aNow (fun T z _ _ hz => now_touch wp hz)
                rcases ha5 : askT aNow x4 with ⟨r, x5⟩
                rw [ha5] at C
                have q0 : (w').drew.cell? ⟨b0, 0, none⟩ = some (.pointer (some ⟨pl.tb, 0, none⟩)) ∧ (w').drew.cell? ⟨b0, 1, none⟩ = some (.pointer (some ⟨c.wb, 0, none⟩)) ∧ (w').drew.cell? ⟨c.wb, 2, none⟩ = some (.pointer (some ⟨c.eb, 0, none⟩)) := ⟨k0, k1, v2⟩
                have CC := Lib.hid C
                have hP5 := HP.out
                clear C H hd k0 k1 k2 v0 v1 v2 v3 v4 v5 HP
                cases r with
                | none =>
                  have HP : Hid ((.wait, x5) = res) := Lib.hid ((Wk.run_none (k := fun now2 => ones F me now2) ha5).symm.trans hP5)
                  clear hP5
                  go_upto_region 13 with fail
                  refine AnyK.start (ks := [8, 9]) (S := fun w' => w'.cell? ⟨b0, 0, none⟩ = some (.pointer (some ⟨pl.tb, 0, none⟩)) ∧ w'.cell? ⟨b0, 1, none⟩ = some (.pointer (some ⟨c.wb, 0, none⟩)) ∧ w'.cell? ⟨c.wb, 2, none⟩ = some (.pointer (some ⟨c.eb, 0, none⟩))) (by kernel_rfl) (by exact q0) (fun _ => ?_)
                  refine AnyK.takeB (i := 0) (v := ?_) rfl (by kernel_rfl) (by kernel_rfl) (by kernel_rfl) (by kernel_rfl) (fun _ _ _ h => h) (Or.inl ⟨by rfl, ?_⟩) (by exact q0) ?_
                  rotate_left
                  focus
                    intro w9 hSw
                    try dsimp only at hSw
                    go_simp
                    try with_reducible rfl
                  try simp only [Act.put, List.setIfInBounds_toArray, List.set_cons_zero, List.set_cons_succ]
                  refine AnyK.takeB (i := 1) (v := ?_) rfl (by kernel_rfl) (by kernel_rfl) (by kernel_rfl) (by kernel_rfl) (fun _ _ _ h => h) (Or.inl ⟨by rfl, ?_⟩) (by exact q0) ?_
                  rotate_left
                  focus
                    intro w9 hSw
                    try dsimp only at hSw
                    go_simp
                    try with_reducible rfl
                  try simp only [Act.put, List.setIfInBounds_toArray, List.set_cons_zero, List.set_cons_succ]
                  refine AnyK.takeB (i := 2) (v := ?_) rfl (by kernel_rfl) (by kernel_rfl) (by kernel_rfl) (by kernel_rfl) (fun _ _ _ h => h) (Or.inl ⟨by rfl, ?_⟩) (by exact q0) ?_
                  rotate_left
                  focus
                    intro w9 hSw
                    try dsimp only at hSw
                    go_simp
                    try with_reducible rfl
                  try simp only [Act.put, List.setIfInBounds_toArray, List.set_cons_zero, List.set_cons_succ]
                  refine AnyK.takeB (i := 3) (v := ?_) rfl (by kernel_rfl) (by kernel_rfl) (by kernel_rfl) (by kernel_rfl) (fun _ _ _ h => h) (Or.inl ⟨by rfl, ?_⟩) (by exact q0) ?_
                  rotate_left
                  focus
                    intro w9 hSw
                    try dsimp only at hSw
                    go_simp
                    try with_reducible rfl
                  try simp only [Act.put, List.setIfInBounds_toArray, List.set_cons_zero, List.set_cons_succ]
                  refine AnyK.takeB (i := 4) (v := ?_) rfl (by kernel_rfl) (by kernel_rfl) (by kernel_rfl) (by kernel_rfl) (fun _ _ _ h => h) (Or.inl ⟨by rfl, ?_⟩) (by exact q0) ?_
                  rotate_left
                  focus
                    intro w9 hSw
                    try dsimp only at hSw
                    go_simp
                    try with_reducible rfl
                  try simp only [Act.put, List.setIfInBounds_toArray, List.set_cons_zero, List.set_cons_succ]
                  refine AnyK.takeB (i := 5) (v := ?_) rfl (by kernel_rfl) (by kernel_rfl) (by kernel_rfl) (by kernel_rfl) (fun _ _ _ h => h) (Or.inl ⟨by rfl, ?_⟩) (by exact q0) ?_
                  rotate_left
                  focus
                    intro w9 hSw
                    try dsimp only at hSw
                    go_simp
                    try with_reducible rfl
                  try simp only [Act.put, List.setIfInBounds_toArray, List.set_cons_zero, List.set_cons_succ]
                  refine AnyK.takeB (i := 6) (v := ?_) rfl (by kernel_rfl) (by kernel_rfl) (by kernel_rfl) (by kernel_rfl) (fun _ _ _ h => h) (Or.inl ⟨by rfl, ?_⟩) (by exact q0) ?_
                  rotate_left
                  focus
                    intro w9 hSw
                    try dsimp only at hSw
                    go_simp
                    try with_reducible rfl
                  try simp only [Act.put, List.setIfInBounds_toArray, List.set_cons_zero, List.set_cons_succ]
                  refine AnyK.takeB (i := 7) (v := ?_) rfl (by kernel_rfl) (by kernel_rfl) (by kernel_rfl) (by kernel_rfl) (fun _ _ _ h => h) (Or.inl ⟨by rfl, ?_⟩) (by exact q0) ?_
                  rotate_left
                  focus
                    intro w9 hSw
                    try dsimp only at hSw
                    go_simp
                    try with_reducible rfl
                  try simp only [Act.put, List.setIfInBounds_toArray, List.set_cons_zero, List.set_cons_succ]
                  refine AnyK.one (i := 8) (by kernel_rfl) rfl (fun K9 hK9 => ?_)
                  go_simp
                  refine CC.out.mono ?_
                  rintro e w5 ⟨rfl, H⟩
                  change bodyPost Try.prog Try.f22 _ (Exit.panic [waitE]) _ _
                  rw [← HP.out]
                  exact ⟨rfl, rfl, by first | exact H.dropX | exact H.dropX.dropX⟩
                | some now2 =>
                  have HP : Hid ((ones F me now2).run x5 = res) := Lib.hid ((Wk.run_some (k := fun now2 => ones F me now2) ha5).symm.trans hP5)
                  have HF5 := Lib.hid (HF4.out.ask good_now ha5)
                  have HSp5 := Lib.hid (sp_ask HSp4.out ha5)
                  have HM5 := Lib.hid (askT_mem ha5).1
                  clear hP5 HF4 HSp4
                  go_upto_region 13 with fail
                  refine AnyK.start (ks := [8, 9]) (S := fun w' => w'.cell? ⟨b0, 0, none⟩ = some (.pointer (some ⟨pl.tb, 0, none⟩)) ∧ w'.cell? ⟨b0, 1, none⟩ = some (.pointer (some ⟨c.wb, 0, none⟩)) ∧ w'.cell? ⟨c.wb, 2, none⟩ = some (.pointer (some ⟨c.eb, 0, none⟩))) (by kernel_rfl) (by exact q0) (fun _ => ?_)
                  refine AnyK.takeB (i := 0) (v := ?_) rfl (by kernel_rfl) (by kernel_rfl) (by kernel_rfl) (by kernel_rfl) (fun _ _ _ h => h) (Or.inl ⟨by rfl, ?_⟩) (by exact q0) ?_
                  rotate_left
                  focus
                    intro w9 hSw
                    try dsimp only at hSw
                    go_simp
                    try with_reducible rfl
                  try simp only [Act.put, List.setIfInBounds_toArray, List.set_cons_zero, List.set_cons_succ]
                  refine AnyK.takeB (i := 1) (v := ?_) rfl (by kernel_rfl) (by kernel_rfl) (by kernel_rfl) (by kernel_rfl) (fun _ _ _ h => h) (Or.inl ⟨by rfl, ?_⟩) (by exact q0) ?_
                  rotate_left
                  focus
                    intro w9 hSw
                    try dsimp only at hSw
                    go_simp
                    try with_reducible rfl
                  try simp only [Act.put, List.setIfInBounds_toArray, List.set_cons_zero, List.set_cons_succ]
                  refine AnyK.takeB (i := 2) (v := ?_) rfl (by kernel_rfl) (by kernel_rfl) (by kernel_rfl) (by kernel_rfl) (fun _ _ _ h => h) (Or.inl ⟨by rfl, ?_⟩) (by exact q0) ?_
                  rotate_left
                  focus
                    intro w9 hSw
                    try dsimp only at hSw
                    go_simp
                    try with_reducible rfl
                  try simp only [Act.put, List.setIfInBounds_toArray, List.set_cons_zero, List.set_cons_succ]
                  refine AnyK.takeB (i := 3) (v := ?_) rfl (by kernel_rfl) (by kernel_rfl) (by kernel_rfl) (by kernel_rfl) (fun _ _ _ h => h) (Or.inl ⟨by rfl, ?_⟩) (by exact q0) ?_
                  rotate_left
                  focus
                    intro w9 hSw
                    try dsimp only at hSw
                    go_simp
                    try with_reducible rfl
                  try simp only [Act.put, List.setIfInBounds_toArray, List.set_cons_zero, List.set_cons_succ]
                  refine AnyK.takeB (i := 4) (v := ?_) rfl (by kernel_rfl) (by kernel_rfl) (by kernel_rfl) (by kernel_rfl) (fun _ _ _ h => h) (Or.inl ⟨by rfl, ?_⟩) (by exact q0) ?_
                  rotate_left
                  focus
                    intro w9 hSw
                    try dsimp only at hSw
                    go_simp
                    try with_reducible rfl
                  try simp only [Act.put, List.setIfInBounds_toArray, List.set_cons_zero, List.set_cons_succ]
                  refine AnyK.takeB (i := 5) (v := ?_) rfl (by kernel_rfl) (by kernel_rfl) (by kernel_rfl) (by kernel_rfl) (fun _ _ _ h => h) (Or.inl ⟨by rfl, ?_⟩) (by exact q0) ?_
                  rotate_left
                  focus
                    intro w9 hSw
                    try dsimp only at hSw
                    go_simp
                    try with_reducible rfl
                  try simp only [Act.put, List.setIfInBounds_toArray, List.set_cons_zero, List.set_cons_succ]
                  refine AnyK.takeB (i := 6) (v := ?_) rfl (by kernel_rfl) (by kernel_rfl) (by kernel_rfl) (by kernel_rfl) (fun _ _ _ h => h) (Or.inl ⟨by rfl, ?_⟩) (by exact q0) ?_
                  rotate_left
                  focus
                    intro w9 hSw
                    try dsimp only at hSw
                    go_simp
                    try with_reducible rfl
                  try simp only [Act.put, List.setIfInBounds_toArray, List.set_cons_zero, List.set_cons_succ]
                  refine AnyK.takeB (i := 7) (v := ?_) rfl (by kernel_rfl) (by kernel_rfl) (by kernel_rfl) (by kernel_rfl) (fun _ _ _ h => h) (Or.inl ⟨by rfl, ?_⟩) (by exact q0) ?_
                  rotate_left
                  focus
                    intro w9 hSw
                    try dsimp only at hSw
                    go_simp
                    try with_reducible rfl
                  try simp only [Act.put, List.setIfInBounds_toArray, List.set_cons_zero, List.set_cons_succ]
                  refine AnyK.one (i := 8) (by kernel_rfl) rfl (fun K9 hK9 => ?_)
                  go_simp
                  refine CC.out.mono ?_
                  rintro e w5 ⟨rfl, H⟩
                  have BN := x_blk (b := nb) (t := 2) (cs := #[.int .i64 now]) H (X.length + 1) (by simp)
                  have cN : w5.cell? ⟨nb, 0, none⟩ = some (.int .i64 now) := BN.cell 0
                  have zN := BN.froz 0
                  refine hK9.out _ _ (fun hx => absurd (by decide) hx) ?_
                  clear hK9 K9 BN
                  try simp only [Act.put, List.setIfInBounds_toArray, List.set_cons_zero, List.set_cons_succ]
                  refine AnyK.one (i := 9) (by kernel_rfl) rfl (fun K9 hK9 => ?_)
                  go_simp
                  refine hK9.out _ _ (fun hx => absurd (by decide) hx) ?_
                  clear hK9 K9
                  try simp only [Act.put, List.setIfInBounds_toArray, List.set_cons_zero, List.set_cons_succ]
                  refine AnyK.done (by kernel_rfl) ?_ _
                  have HA := H.setX (b := nb) (t := 2) (cs := #[.int .i64 now]) (X.length + 1) (by simp) 0 (.int .i64 now2)
                  rw [List.set_append_right _ _ (by omega)] at HA
                  simp only [Nat.add_sub_cancel_left] at HA
                  have HA : Heap w0 (w5.setCell ⟨nb, 0, none⟩ (.int .i64 now2)) (pl.F x5.sh (T.of x5) ++ (X ++ [tkP pl.tb c.wb b0 me, blkP nb 2 #[.int .i64 now2]])) := HA
                  have HH := Lib.hid HA
                  clear HA H cN zN q0 CC
                  generalize w5.setCell ⟨nb, 0, none⟩ (.int .i64 now2) = w6 at *

                  go_wp2_with fail
                  go_loopg [] (left x5) (fun g wr => ∃ (x6 : Tst Wd) (f : Nat), left x6 = g ∧ Hid ((ones f me now2).run x6 = res) ∧ Hid (FitW N x6) ∧ Hid (x6.spent = false → ∀ n ∈ x6.log, inR n) ∧ Hid (now2 ∈ x6.log) ∧ Hid (Heap w0 wr (pl.F x6.sh (T.of x6) ++ (X ++ [tkP pl.tb c.wb b0 me, blkP nb 2 #[.int .i64 now2]]))))
                  case atStart => exact ⟨x5, F, rfl, HP, HF5, HSp5, HM5, HH⟩
                  case round =>
                    clear HH HP HF5 HSp5 HM5
                    obtain ⟨x6, f, hg, HP, HF, HSp, HM, HH⟩ := hrel
                    have HS := HH.out
                    cases f with
                    | zero => exact absurd (by rw [← HP.out]; rfl) hns
                    | succ f =>
                      have C := Do_wd HS hin HF.out 74 #[] #[.pointer (some ⟨b0, 0, none⟩), .pointer (some ⟨nb, 0, none⟩)] one_enters (aOne me now2) (fun T z ok hsp hz => beg4_touch wp hz X.length (by simp [tkP]) (X.length + 1) (by simp) ok (by omega) (HSp.out hsp now2 HM.out))
                      obtain ⟨k0, k1, k2⟩ := tk_cells (tk := b0) (me := me) (tb := pl.tb) (wb := c.wb) HS X.length (by simp [tkP])
                      rcases ha6 : askT (aOne me now2) x6 with ⟨r, x7⟩
                      rw [ha6] at C
                      have hP6 := HP.out
                      have CC := Lib.hid C
                      have HG := Lib.hid hg
                      clear C HS HP hg
                      cases r with
                      | none =>
                        have HP : Hid ((.wait, x7) = res) := Lib.hid ((Wk.run_none (k := fun r => if r = 0 then .ret () else ones f me now2) ha6).symm.trans hP6)
                        clear hP6
                        go_wp2_with fail
                        refine CC.out.mono ?_
                        rintro e w' ⟨rfl, H⟩
                        change bodyPost Try.prog Try.f22 _ (Exit.panic [waitE]) _ _
                        rw [← HP.out]
                        exact ⟨rfl, rfl, by first | exact H.dropX | exact H.dropX.dropX⟩
                      | some r =>
                        have HP : Hid ((if r = 0 then (.ret () : Wk Unit) else ones f me now2).run x7 = res) := Lib.hid ((Wk.run_some (k := fun r => if r = 0 then .ret () else ones f me now2) ha6).symm.trans hP6)
                        have HF7 := Lib.hid (HF.out.ask (good_one me now2) ha6)
                        have HSp7 := Lib.hid (sp_ask HSp.out ha6)
                        have HM7 := Lib.hid ((askT_mem ha6).2.1.subset HM.out)
                        have HL := Lib.hid (askT_left ha6 HF.out.le)
                        clear hP6 HSp HM HF
                        by_cases h0 : r = 0
                        · have hb : (r != 0) = false := by simpa using h0
                          go_wp2_with fail
                          refine CC.out.mono ?_
                          rintro e w' ⟨rfl, H⟩
                          have hP7 := HP.out
                          rw [if_pos h0] at hP7
                          have HP7 : Hid ((.done (), x7) = res) := Lib.hid hP7
                          have HX := Lib.hid H.dropX
                          clear hP7 H HP HH
                          go_wp2_with fail
                          go_end0
                          rw [← HP7.out]
                          exact ⟨_, [], rfl, ⟨rfl, rfl⟩, HF7.out, by rw [List.append_nil]; exact HX.out⟩
                        · have hb : (r != 0) = true := by simpa using h0
                          go_wp2_with fail
                          refine CC.out.mono ?_
                          rintro e w' ⟨rfl, H⟩
                          have hP7 := HP.out
                          rw [if_neg h0] at hP7
                          have HP7 := Lib.hid hP7
                          have HX := Lib.hid H
                          clear hP7 H HP HH k0 k1 k2 CC
                          go_wp2_with fail
                          go_roundg (left x7)
                          case measure => have h1 := HL.out; have h2 := HG.out; omega
                          case rel => exact ⟨x7, f, rfl, HP7, HF7, HSp7, HM7, HX⟩
              · have hP4 := HP.out
                rw [if_neg hc] at hP4
                have HP := Lib.hid hP4
                have hb : (a != -1) = false ∨ ((a != -1) = true ∧ (a != now) = false) := by
                  by_cases h1 : a = -1
                  · exact .inl (by simp [h1])
                  · refine .inr ⟨by simpa using h1, ?_⟩
                    by_cases h2 : a = now
                    · simp [h2]
                    · exact absurd ⟨h1, h2⟩ hc
                clear hP4 hc
                rcases hb with b1 | ⟨b1, b2⟩
                · go_wp2_with fail
                  refine ⟨⟨k + 1, x4, by go_num, by omega, rfl, by rw [show n - (k + 1) = m from by omega]; simpa using HP, HF4, HSp4, HX⟩, by simp [intOf]; omega⟩
                · go_wp2_with fail
                  refine ⟨⟨k + 1, x4, by go_num, by omega, rfl, by rw [show n - (k + 1) = m from by omega]; simpa using HP, HF4, HSp4, HX⟩, by simp [intOf]; omega⟩
          · have e0 : n - k = 0 := by omega
            have hP4 := HP.out
            rw [e0] at hP4
            have hP5 : (Wk.ask (aSwap now) fun _ => .ask aNow fun now2 => ones F me now2).run x3 = res := hP4
            have HP := Lib.hid hP5
            clear hP4 hP5 e0
            have HS := HH.out
            have C := Ask_wd HS hin HF.out 73 #[] #[.pointer (some ⟨b0, 0, none⟩), .pointer (some ⟨nb, 0, none⟩)] swap_enters (decide (x3.sh.ep.now = now)) (aSwap now x3.sh).2 (aSwap now) rfl (fun Y T z ok _ hz => swap_touch (me := me) wp hz X.length (by simp [tkP]) (X.length + 1) (by simp) ok (by omega))
            obtain ⟨k0, k1, k2⟩ := tk_cells (tk := b0) (me := me) (tb := pl.tb) (wb := c.wb) HS X.length (by simp [tkP])
            rcases ha3 : askT (aSwap now) x3 with ⟨r, x4⟩
            rw [ha3] at C
            have hP3 := HP.out
            clear HS HP
            cases r with
            | none =>
              have hP4 : (.wait, x4) = res := (Wk.run_none (k := fun _ => .ask aNow fun now2 => ones F me now2) ha3).symm.trans hP3
              have HP := Lib.hid hP4
              have CC := Lib.hid C
              clear hP3 hP4 C
              go_wp2_with fail
              refine CC.out.mono ?_
              rintro e w' ⟨rfl, H⟩
              change bodyPost Try.prog Try.f22 _ (Exit.panic [waitE]) _ _
              rw [← HP.out]
              exact ⟨rfl, rfl, by first | exact H.dropX | exact H.dropX.dropX⟩
            | some y =>
              have hP4 : (Wk.ask aNow fun now2 => ones F me now2).run x4 = res := (Wk.run_some (k := fun _ => .ask aNow fun now2 => ones F me now2) ha3).symm.trans hP3
              have HP := Lib.hid hP4
              have CC := Lib.hid C
              have HF4 := Lib.hid (HF.out.ask (good_swap now) ha3)
              have HSp := Lib.hid (sp_ask HSp.out ha3)
              clear hP3 hP4 C HF
              go_wp2_with fail
              refine CC.out.mono ?_
              rintro e w' ⟨rfl, H⟩
              clear CC k0 k1 k2 HH
              have hd := H.drew
              obtain ⟨k0, k1, k2⟩ := tk_cells (tk := b0) (me := me) (tb := pl.tb) (wb := c.wb) hd X.length (by simp [tkP])
              obtain ⟨v0, v1, v2, v3, v4, v5⟩ := wd_cells wp hd
              have C := Do_wd hd hin HF4.out 23 #[.pointer (some ⟨c.eb, 0, none⟩)] #[] now_enters aNow (fun T z _ _ hz => now_touch wp hz)
              rcases ha5 : askT aNow x4 with ⟨r, x5⟩
              rw [ha5] at C
              have q0 : (w').drew.cell? ⟨b0, 0, none⟩ = some (.pointer (some ⟨pl.tb, 0, none⟩)) ∧ (w').drew.cell? ⟨b0, 1, none⟩ = some (.pointer (some ⟨c.wb, 0, none⟩)) ∧ (w').drew.cell? ⟨c.wb, 2, none⟩ = some (.pointer (some ⟨c.eb, 0, none⟩)) := ⟨k0, k1, v2⟩
              have CC := Lib.hid C
              have hP5 := HP.out
              clear C H hd k0 k1 k2 v0 v1 v2 v3 v4 v5 HP
              cases r with
              | none =>
                have HP : Hid ((.wait, x5) = res) := Lib.hid ((Wk.run_none (k := fun now2 => ones F me now2) ha5).symm.trans hP5)
                clear hP5
                go_upto_region 13 with fail
                refine AnyK.start (ks := [8, 9]) (S := fun w' => w'.cell? ⟨b0, 0, none⟩ = some (.pointer (some ⟨pl.tb, 0, none⟩)) ∧ w'.cell? ⟨b0, 1, none⟩ = some (.pointer (some ⟨c.wb, 0, none⟩)) ∧ w'.cell? ⟨c.wb, 2, none⟩ = some (.pointer (some ⟨c.eb, 0, none⟩))) (by kernel_rfl) (by exact q0) (fun _ => ?_)
                refine AnyK.takeB (i := 0) (v := ?_) rfl (by kernel_rfl) (by kernel_rfl) (by kernel_rfl) (by kernel_rfl) (fun _ _ _ h => h) (Or.inl ⟨by rfl, ?_⟩) (by exact q0) ?_
                rotate_left
                focus
                  intro w9 hSw
                  try dsimp only at hSw
                  go_simp
                  try with_reducible rfl
                try simp only [Act.put, List.setIfInBounds_toArray, List.set_cons_zero, List.set_cons_succ]
                refine AnyK.takeB (i := 1) (v := ?_) rfl (by kernel_rfl) (by kernel_rfl) (by kernel_rfl) (by kernel_rfl) (fun _ _ _ h => h) (Or.inl ⟨by rfl, ?_⟩) (by exact q0) ?_
                rotate_left
                focus
                  intro w9 hSw
                  try dsimp only at hSw
                  go_simp
                  try with_reducible rfl
                try simp only [Act.put, List.setIfInBounds_toArray, List.set_cons_zero, List.set_cons_succ]
                refine AnyK.takeB (i := 2) (v := ?_) rfl (by kernel_rfl) (by kernel_rfl) (by kernel_rfl) (by kernel_rfl) (fun _ _ _ h => h) (Or.inl ⟨by rfl, ?_⟩) (by exact q0) ?_
                rotate_left
                focus
                  intro w9 hSw
                  try dsimp only at hSw
                  go_simp
                  try with_reducible rfl
                try simp only [Act.put, List.setIfInBounds_toArray, List.set_cons_zero, List.set_cons_succ]
                refine AnyK.takeB (i := 3) (v := ?_) rfl (by kernel_rfl) (by kernel_rfl) (by kernel_rfl) (by kernel_rfl) (fun _ _ _ h => h) (Or.inl ⟨by rfl, ?_⟩) (by exact q0) ?_
                rotate_left
                focus
                  intro w9 hSw
                  try dsimp only at hSw
                  go_simp
                  try with_reducible rfl
                try simp only [Act.put, List.setIfInBounds_toArray, List.set_cons_zero, List.set_cons_succ]
                refine AnyK.takeB (i := 4) (v := ?_) rfl (by kernel_rfl) (by kernel_rfl) (by kernel_rfl) (by kernel_rfl) (fun _ _ _ h => h) (Or.inl ⟨by rfl, ?_⟩) (by exact q0) ?_
                rotate_left
                focus
                  intro w9 hSw
                  try dsimp only at hSw
                  go_simp
                  try with_reducible rfl
                try simp only [Act.put, List.setIfInBounds_toArray, List.set_cons_zero, List.set_cons_succ]
                refine AnyK.takeB (i := 5) (v := ?_) rfl (by kernel_rfl) (by kernel_rfl) (by kernel_rfl) (by kernel_rfl) (fun _ _ _ h => h) (Or.inl ⟨by rfl, ?_⟩) (by exact q0) ?_
                rotate_left
                focus
                  intro w9 hSw
                  try dsimp only at hSw
                  go_simp
                  try with_reducible rfl
                try simp only [Act.put, List.setIfInBounds_toArray, List.set_cons_zero, List.set_cons_succ]
                refine AnyK.takeB (i := 6) (v := ?_) rfl (by kernel_rfl) (by kernel_rfl) (by kernel_rfl) (by kernel_rfl) (fun _ _ _ h => h) (Or.inl ⟨by rfl, ?_⟩) (by exact q0) ?_
                rotate_left
                focus
                  intro w9 hSw
                  try dsimp only at hSw
                  go_simp
                  try with_reducible rfl
                try simp only [Act.put, List.setIfInBounds_toArray, List.set_cons_zero, List.set_cons_succ]
                refine AnyK.takeB (i := 7) (v := ?_) rfl (by kernel_rfl) (by kernel_rfl) (by kernel_rfl) (by kernel_rfl) (fun _ _ _ h => h) (Or.inl ⟨by rfl, ?_⟩) (by exact q0) ?_
                rotate_left
                focus
                  intro w9 hSw
                  try dsimp only at hSw
                  go_simp
                  try with_reducible rfl
                try simp only [Act.put, List.setIfInBounds_toArray, List.set_cons_zero, List.set_cons_succ]
                refine AnyK.one (i := 8) (by kernel_rfl) rfl (fun K9 hK9 => ?_)
                go_simp
                refine CC.out.mono ?_
                rintro e w5 ⟨rfl, H⟩
                change bodyPost Try.prog Try.f22 _ (Exit.panic [waitE]) _ _
                rw [← HP.out]
                exact ⟨rfl, rfl, by first | exact H.dropX | exact H.dropX.dropX⟩
              | some now2 =>
                have HP : Hid ((ones F me now2).run x5 = res) := Lib.hid ((Wk.run_some (k := fun now2 => ones F me now2) ha5).symm.trans hP5)
                have HF5 := Lib.hid (HF4.out.ask good_now ha5)
                have HSp5 := Lib.hid (sp_ask HSp.out ha5)
                have HM5 := Lib.hid (askT_mem ha5).1
                clear hP5 HF4 HSp
                go_upto_region 13 with fail
                refine AnyK.start (ks := [8, 9]) (S := fun w' => w'.cell? ⟨b0, 0, none⟩ = some (.pointer (some ⟨pl.tb, 0, none⟩)) ∧ w'.cell? ⟨b0, 1, none⟩ = some (.pointer (some ⟨c.wb, 0, none⟩)) ∧ w'.cell? ⟨c.wb, 2, none⟩ = some (.pointer (some ⟨c.eb, 0, none⟩))) (by kernel_rfl) (by exact q0) (fun _ => ?_)
                refine AnyK.takeB (i := 0) (v := ?_) rfl (by kernel_rfl) (by kernel_rfl) (by kernel_rfl) (by kernel_rfl) (fun _ _ _ h => h) (Or.inl ⟨by rfl, ?_⟩) (by exact q0) ?_
                rotate_left
                focus
                  intro w9 hSw
                  try dsimp only at hSw
                  go_simp
                  try with_reducible rfl
                try simp only [Act.put, List.setIfInBounds_toArray, List.set_cons_zero, List.set_cons_succ]
                refine AnyK.takeB (i := 1) (v := ?_) rfl (by kernel_rfl) (by kernel_rfl) (by kernel_rfl) (by kernel_rfl) (fun _ _ _ h => h) (Or.inl ⟨by rfl, ?_⟩) (by exact q0) ?_
                rotate_left
                focus
                  intro w9 hSw
                  try dsimp only at hSw
                  go_simp
                  try with_reducible rfl
                try simp only [Act.put, List.setIfInBounds_toArray, List.set_cons_zero, List.set_cons_succ]
                refine AnyK.takeB (i := 2) (v := ?_) rfl (by kernel_rfl) (by kernel_rfl) (by kernel_rfl) (by kernel_rfl) (fun _ _ _ h => h) (Or.inl ⟨by rfl, ?_⟩) (by exact q0) ?_
                rotate_left
                focus
                  intro w9 hSw
                  try dsimp only at hSw
                  go_simp
                  try with_reducible rfl
                try simp only [Act.put, List.setIfInBounds_toArray, List.set_cons_zero, List.set_cons_succ]
                refine AnyK.takeB (i := 3) (v := ?_) rfl (by kernel_rfl) (by kernel_rfl) (by kernel_rfl) (by kernel_rfl) (fun _ _ _ h => h) (Or.inl ⟨by rfl, ?_⟩) (by exact q0) ?_
                rotate_left
                focus
                  intro w9 hSw
                  try dsimp only at hSw
                  go_simp
                  try with_reducible rfl
                try simp only [Act.put, List.setIfInBounds_toArray, List.set_cons_zero, List.set_cons_succ]
                refine AnyK.takeB (i := 4) (v := ?_) rfl (by kernel_rfl) (by kernel_rfl) (by kernel_rfl) (by kernel_rfl) (fun _ _ _ h => h) (Or.inl ⟨by rfl, ?_⟩) (by exact q0) ?_
                rotate_left
                focus
                  intro w9 hSw
                  try dsimp only at hSw
                  go_simp
                  try with_reducible rfl
                try simp only [Act.put, List.setIfInBounds_toArray, List.set_cons_zero, List.set_cons_succ]
                refine AnyK.takeB (i := 5) (v := ?_) rfl (by kernel_rfl) (by kernel_rfl) (by kernel_rfl) (by kernel_rfl) (fun _ _ _ h => h) (Or.inl ⟨by rfl, ?_⟩) (by exact q0) ?_
                rotate_left
                focus
                  intro w9 hSw
                  try dsimp only at hSw
                  go_simp
                  try with_reducible rfl
                try simp only [Act.put, List.setIfInBounds_toArray, List.set_cons_zero, List.set_cons_succ]
                refine AnyK.takeB (i := 6) (v := ?_) rfl (by kernel_rfl) (by kernel_rfl) (by kernel_rfl) (by kernel_rfl) (fun _ _ _ h => h) (Or.inl ⟨by rfl, ?_⟩) (by exact q0) ?_
                rotate_left
                focus
                  intro w9 hSw
                  try dsimp only at hSw
                  go_simp
                  try with_reducible rfl
                try simp only [Act.put, List.setIfInBounds_toArray, List.set_cons_zero, List.set_cons_succ]
                refine AnyK.takeB (i := 7) (v := ?_) rfl (by kernel_rfl) (by kernel_rfl) (by kernel_rfl) (by kernel_rfl) (fun _ _ _ h => h) (Or.inl ⟨by rfl, ?_⟩) (by exact q0) ?_
                rotate_left
                focus
                  intro w9 hSw
                  try dsimp only at hSw
                  go_simp
                  try with_reducible rfl
                try simp only [Act.put, List.setIfInBounds_toArray, List.set_cons_zero, List.set_cons_succ]
                refine AnyK.one (i := 8) (by kernel_rfl) rfl (fun K9 hK9 => ?_)
                go_simp
                refine CC.out.mono ?_
                rintro e w5 ⟨rfl, H⟩
                have BN := x_blk (b := nb) (t := 2) (cs := #[.int .i64 now]) H (X.length + 1) (by simp)
                have cN : w5.cell? ⟨nb, 0, none⟩ = some (.int .i64 now) := BN.cell 0
                have zN := BN.froz 0
                refine hK9.out _ _ (fun hx => absurd (by decide) hx) ?_
                clear hK9 K9 BN
                try simp only [Act.put, List.setIfInBounds_toArray, List.set_cons_zero, List.set_cons_succ]
                refine AnyK.one (i := 9) (by kernel_rfl) rfl (fun K9 hK9 => ?_)
                go_simp
                refine hK9.out _ _ (fun hx => absurd (by decide) hx) ?_
                clear hK9 K9
                try simp only [Act.put, List.setIfInBounds_toArray, List.set_cons_zero, List.set_cons_succ]
                refine AnyK.done (by kernel_rfl) ?_ _
                have HA := H.setX (b := nb) (t := 2) (cs := #[.int .i64 now]) (X.length + 1) (by simp) 0 (.int .i64 now2)
                rw [List.set_append_right _ _ (by omega)] at HA
                simp only [Nat.add_sub_cancel_left] at HA
                have HA : Heap w0 (w5.setCell ⟨nb, 0, none⟩ (.int .i64 now2)) (pl.F x5.sh (T.of x5) ++ (X ++ [tkP pl.tb c.wb b0 me, blkP nb 2 #[.int .i64 now2]])) := HA
                have HH := Lib.hid HA
                clear HA H cN zN q0 CC
                generalize w5.setCell ⟨nb, 0, none⟩ (.int .i64 now2) = w6 at *

                go_wp2_with fail
                go_loopg [] (left x5) (fun g wr => ∃ (x6 : Tst Wd) (f : Nat), left x6 = g ∧ Hid ((ones f me now2).run x6 = res) ∧ Hid (FitW N x6) ∧ Hid (x6.spent = false → ∀ n ∈ x6.log, inR n) ∧ Hid (now2 ∈ x6.log) ∧ Hid (Heap w0 wr (pl.F x6.sh (T.of x6) ++ (X ++ [tkP pl.tb c.wb b0 me, blkP nb 2 #[.int .i64 now2]]))))
                case atStart => exact ⟨x5, F, rfl, HP, HF5, HSp5, HM5, HH⟩
                case round =>
                  clear HH HP HF5 HSp5 HM5
                  obtain ⟨x6, f, hg, HP, HF, HSp, HM, HH⟩ := hrel
                  have HS := HH.out
                  cases f with
                  | zero => exact absurd (by rw [← HP.out]; rfl) hns
                  | succ f =>
                    have C := Do_wd HS hin HF.out 74 #[] #[.pointer (some ⟨b0, 0, none⟩), .pointer (some ⟨nb, 0, none⟩)] one_enters (aOne me now2) (fun T z ok hsp hz => beg4_touch wp hz X.length (by simp [tkP]) (X.length + 1) (by simp) ok (by omega) (HSp.out hsp now2 HM.out))
                    obtain ⟨k0, k1, k2⟩ := tk_cells (tk := b0) (me := me) (tb := pl.tb) (wb := c.wb) HS X.length (by simp [tkP])
                    rcases ha6 : askT (aOne me now2) x6 with ⟨r, x7⟩
                    rw [ha6] at C
                    have hP6 := HP.out
                    have CC := Lib.hid C
                    have HG := Lib.hid hg
                    clear C HS HP hg
                    cases r with
                    | none =>
                      have HP : Hid ((.wait, x7) = res) := Lib.hid ((Wk.run_none (k := fun r => if r = 0 then .ret () else ones f me now2) ha6).symm.trans hP6)
                      clear hP6
                      go_wp2_with fail
                      refine CC.out.mono ?_
                      rintro e w' ⟨rfl, H⟩
                      change bodyPost Try.prog Try.f22 _ (Exit.panic [waitE]) _ _
                      rw [← HP.out]
                      exact ⟨rfl, rfl, by first | exact H.dropX | exact H.dropX.dropX⟩
                    | some r =>
                      have HP : Hid ((if r = 0 then (.ret () : Wk Unit) else ones f me now2).run x7 = res) := Lib.hid ((Wk.run_some (k := fun r => if r = 0 then .ret () else ones f me now2) ha6).symm.trans hP6)
                      have HF7 := Lib.hid (HF.out.ask (good_one me now2) ha6)
                      have HSp7 := Lib.hid (sp_ask HSp.out ha6)
                      have HM7 := Lib.hid ((askT_mem ha6).2.1.subset HM.out)
                      have HL := Lib.hid (askT_left ha6 HF.out.le)
                      clear hP6 HSp HM HF
                      by_cases h0 : r = 0
                      · have hb : (r != 0) = false := by simpa using h0
                        go_wp2_with fail
                        refine CC.out.mono ?_
                        rintro e w' ⟨rfl, H⟩
                        have hP7 := HP.out
                        rw [if_pos h0] at hP7
                        have HP7 : Hid ((.done (), x7) = res) := Lib.hid hP7
                        have HX := Lib.hid H.dropX
                        clear hP7 H HP HH
                        go_wp2_with fail
                        go_end0
                        rw [← HP7.out]
                        exact ⟨_, [], rfl, ⟨rfl, rfl⟩, HF7.out, by rw [List.append_nil]; exact HX.out⟩
                      · have hb : (r != 0) = true := by simpa using h0
                        go_wp2_with fail
                        refine CC.out.mono ?_
                        rintro e w' ⟨rfl, H⟩
                        have hP7 := HP.out
                        rw [if_neg h0] at hP7
                        have HP7 := Lib.hid hP7
                        have HX := Lib.hid H
                        clear hP7 H HP HH k0 k1 k2 CC
                        go_wp2_with fail
                        go_roundg (left x7)
                        case measure => have h1 := HL.out; have h2 := HG.out; omega
                        case rel => exact ⟨x7, f, rfl, HP7, HF7, HSp7, HM7, HX⟩
end
end Go.Proofs.Ythkohomogknddaa
