/- The world's tasks: Leave; Drop, of nodes that lie anywhere. No condition but the bounds of size. -/
import Derived.Test.YthkohomogknddaaTsk
import Derived.Deep.DeepCutAuto
import Derived.Deep.CutRange
namespace Go.Proofs.Ythkohomogknddaa
open Go Go.RowKit
set_option linter.unusedVariables false
set_option linter.unusedSimpArgs false
set_option maxRecDepth 100000
/-- Leave's work. -/
def leaveP (me : Int) : List Int → Wk Unit
  | [] => .ret ()
  | r :: l => .ask aNow fun now => .ask (aLeave me r now) fun _ => leaveP me l
section
variable {w0 w : World} {pl : Pl Wd} {X : List Piece} {T : Th} {c : Wc} {N : Nat} {me : Int} {x : Tst Wd}
set_option maxHeartbeats 4000000 in
theorem Leave_task (wp : WdPl pl c) (h : Heap w0 w (pl.F x.sh (T.of x) ++ X)) (hin : T.inn = true) (hf : FitW N x) (hN' : N ≤ 50000) (hr : x.spent = false → ∀ n ∈ x.log, inR n) (v : Value) (rs : List Int) (hm : rs.length ≤ 1000000)
    (rd : ∀ z s T Y, Heap w0 z (pl.F s T ++ (X ++ Y)) → RdV z v rs.length 1 (intC rs)) :
    Calls Try.prog 43 #[tkV pl.tb c.wb me, v] w (TaskP pl w0 X T N unitR ((leaveP me rs).run x)) := by
  obtain ⟨pa, pc, rfl⟩ := (rd w x.sh (T.of x) [] (by rw [List.append_nil]; exact h)).len
  have h1 := h.alloc 41 #[.pointer (some ⟨pl.tb, 0, none⟩), .pointer (some ⟨c.wb, 0, none⟩), .int .i64 me]
  rw [List.append_assoc] at h1
  generalize hP : (leaveP me rs).run x = res at *
  have HP := Lib.hid hP
  have HF := Lib.hid hf
  have HSp := Lib.hid hr
  have HRD := Lib.hid rd
  have HH := Lib.hid h1
  have hmf : ∀ (fn : Fn) (first cap : Array Value) (z : World), (Instr.makeFunc fn first cap).run Try.prog z = .ok (.func fn first cap) z := fun _ _ _ _ => rfl
  clear h h1 rd hf hP hr
  unfold tkV
  go_enter Try.func43, Try.ntmps43
  go_wp2_with fail
  generalize hH : w.heap.size = b0 at *
  go_loopw [9] (fun i wr => ∃ (k : Nat) (x1 : Tst Wd), i = .int .i64 (k : Nat) ∧ k ≤ rs.length ∧ Hid ((leaveP me (rs.drop k)).run x1 = res) ∧ Hid (FitW N x1) ∧ Hid (x1.spent = false → ∀ n ∈ x1.log, inR n) ∧ Hid (Heap w0 wr (pl.F x1.sh (T.of x1) ++ (X ++ [tkP pl.tb c.wb b0 me])))) (fun i _ => rs.length - (intOf i).toNat)
  case atStart => exact ⟨0, x, rfl, Nat.zero_le _, by simpa using HP, HF, HSp, HH⟩
  case round =>
    clear HH HP HF HSp
    obtain ⟨k, x1, rfl, hk, HP, HF, HSp, HH⟩ := hrel
    by_cases hlt : k < rs.length
    · obtain ⟨a1, ea, hc1, hat1⟩ := (HRD.out _ _ _ _ HH.out).at (by omega)
      subst ea
      obtain ⟨r, hr⟩ : ∃ r, rs[k]? = some r := ⟨_, List.getElem?_eq_getElem hlt⟩
      have y1 := hat1 k (.int .i64 r) (by simp [intC, hr])
      have hd : rs.drop k = r :: rs.drop (k + 1) := by
        rw [List.drop_eq_getElem_cons hlt]
        congr 1
        exact (List.getElem?_eq_some_iff.1 hr).2
      have HB := HH.out.alloc 29 #[.int .i64 r]
      rw [List.append_assoc] at HB
      generalize hkb : wr.heap.size = kb at *
      have hP1 := HP.out
      rw [hd] at hP1
      have hP1 : (Wk.ask aNow (fun now => .ask (aLeave me r now) fun _ => leaveP me (rs.drop (k + 1)))).run x1 = res := hP1
      generalize hz1 : wr.alloc (.cells #[.int .i64 r] 29) = z1 at *
      have hz1s : kb < z1.heap.size := by rw [← hz1]; simp; omega
      have HD := HB.drew
      obtain ⟨k0, k1, k2⟩ := tk_cells (tk := b0) (me := me) (tb := pl.tb) (wb := c.wb) HD X.length (by simp [tkP])
      obtain ⟨v0, v1, v2, v3, v4, v5⟩ := wd_cells wp HD
      have hb := HD.alloc 2 #[.int .i64 0]
      rw [List.append_assoc] at hb
      have C := Do_wd hb hin HF.out 23 #[.pointer (some ⟨c.eb, 0, none⟩)] #[] now_enters aNow (fun T z _ _ hz => now_touch wp hz)
      have C0 := Do_wd HD hin HF.out 23 #[.pointer (some ⟨c.eb, 0, none⟩)] #[] now_enters aNow (fun T z _ _ hz => now_touch wp hz)
      rcases ha : askT aNow x1 with ⟨q, x2⟩
      rw [ha] at C C0
      have QA : (z1.drew.alloc (.cells #[.int .i64 0] 2)).cell? ⟨b0, 0, none⟩ = some (.pointer (some ⟨pl.tb, 0, none⟩)) ∧ (z1.drew.alloc (.cells #[.int .i64 0] 2)).cell? ⟨b0, 1, none⟩ = some (.pointer (some ⟨c.wb, 0, none⟩)) ∧ (z1.drew.alloc (.cells #[.int .i64 0] 2)).cell? ⟨c.wb, 2, none⟩ = some (.pointer (some ⟨c.eb, 0, none⟩)) := ⟨((Fr.refl nob _).alloc _).cell' k0 (fun x => x), ((Fr.refl nob _).alloc _).cell' k1 (fun x => x), ((Fr.refl nob _).alloc _).cell' v2 (fun x => x)⟩
      have q0 : z1.drew.cell? ⟨b0, 0, none⟩ = some (.pointer (some ⟨pl.tb, 0, none⟩)) ∧ z1.drew.cell? ⟨b0, 1, none⟩ = some (.pointer (some ⟨c.wb, 0, none⟩)) ∧ z1.drew.cell? ⟨c.wb, 2, none⟩ = some (.pointer (some ⟨c.eb, 0, none⟩)) := ⟨k0, k1, v2⟩
      have CC := Lib.hid (And.intro C C0)
      have HR := Lib.hid hr
      have HKB := Lib.hid hkb
      clear C C0 HB HD hb k0 k1 k2 v0 v1 v2 v3 v4 v5 hat1 hr hd HP
      cases q with
      | none =>
        have HP : Hid ((.wait, x2) = res) := Lib.hid ((Wk.run_none (k := fun now => .ask (aLeave me r now) fun _ => leaveP me (rs.drop (k + 1))) ha).symm.trans hP1)
        clear hP1
        go_upto_region 4 with fail
        refine AnyK.start (ks := [8, 10]) (S := fun w' => w'.cell? ⟨b0, 0, none⟩ = some (.pointer (some ⟨pl.tb, 0, none⟩)) ∧ w'.cell? ⟨b0, 1, none⟩ = some (.pointer (some ⟨c.wb, 0, none⟩)) ∧ w'.cell? ⟨c.wb, 2, none⟩ = some (.pointer (some ⟨c.eb, 0, none⟩))) (by kernel_rfl) (by exact q0) (fun _ => ?_)
        refine AnyK.takeB (i := 0) (v := ?_) rfl (by kernel_rfl) (by kernel_rfl) (by kernel_rfl) (by kernel_rfl) (fun _ _ _ h => h) (Or.inl ⟨by rfl, ?_⟩) (by exact q0) ?_
        rotate_left
        focus
          intro w9 hSw
          try dsimp only at hSw
          go_simp
          try with_reducible rfl
        try simp only [Act.put, List.setIfInBounds_toArray, List.set_cons_zero, List.set_cons_succ]
        refine AnyK.takeB (i := 1) (v := ?_) rfl (by kernel_rfl) (by kernel_rfl) (by kernel_rfl) (by kernel_rfl) (fun _ _ _ h => h) (Or.inl ⟨by rfl, ?_⟩) (by exact q0) ?_
        rotate_left
        focus
          intro w9 hSw
          try dsimp only at hSw
          go_simp
          try with_reducible rfl
        try simp only [Act.put, List.setIfInBounds_toArray, List.set_cons_zero, List.set_cons_succ]
        refine AnyK.takeB (i := 2) (v := ?_) rfl (by kernel_rfl) (by kernel_rfl) (by kernel_rfl) (by kernel_rfl) (fun _ _ _ h => h) (Or.inl ⟨by rfl, ?_⟩) (by exact q0) ?_
        rotate_left
        focus
          intro w9 hSw
          try dsimp only at hSw
          go_simp
          try with_reducible rfl
        try simp only [Act.put, List.setIfInBounds_toArray, List.set_cons_zero, List.set_cons_succ]
        refine AnyK.takeB (i := 3) (v := ?_) rfl (by kernel_rfl) (by kernel_rfl) (by kernel_rfl) (by kernel_rfl) (fun _ _ _ h => h) (Or.inl ⟨by rfl, ?_⟩) (by exact q0) ?_
        rotate_left
        focus
          intro w9 hSw
          try dsimp only at hSw
          go_simp
          try with_reducible rfl
        try simp only [Act.put, List.setIfInBounds_toArray, List.set_cons_zero, List.set_cons_succ]
        refine AnyK.takeB (i := 4) (v := ?_) rfl (by kernel_rfl) (by kernel_rfl) (by kernel_rfl) (by kernel_rfl) (fun _ _ _ h => h) (Or.inl ⟨by rfl, ?_⟩) (by exact q0) ?_
        rotate_left
        focus
          intro w9 hSw
          try dsimp only at hSw
          go_simp
          try with_reducible rfl
        try simp only [Act.put, List.setIfInBounds_toArray, List.set_cons_zero, List.set_cons_succ]
        refine AnyK.takeB (i := 5) (v := ?_) rfl (by kernel_rfl) (by kernel_rfl) (by kernel_rfl) (by kernel_rfl) (fun _ _ _ h => h) (Or.inl ⟨by rfl, ?_⟩) (by exact q0) ?_
        rotate_left
        focus
          intro w9 hSw
          try dsimp only at hSw
          go_simp
          try with_reducible rfl
        try simp only [Act.put, List.setIfInBounds_toArray, List.set_cons_zero, List.set_cons_succ]
        refine AnyK.takeB (i := 6) (v := ?_) rfl (by kernel_rfl) (by kernel_rfl) (by kernel_rfl) (by kernel_rfl) (fun _ _ _ h => h) (Or.inl ⟨by rfl, ?_⟩) (by exact q0) ?_
        rotate_left
        focus
          intro w9 hSw
          try dsimp only at hSw
          go_simp
          try with_reducible rfl
        try simp only [Act.put, List.setIfInBounds_toArray, List.set_cons_zero, List.set_cons_succ]
        refine AnyK.takeB (i := 7) (v := ?_) rfl (by kernel_rfl) (by kernel_rfl) (by kernel_rfl) (by kernel_rfl) (fun _ _ _ h => h) (Or.inl ⟨by rfl, ?_⟩) (by exact q0) ?_
        rotate_left
        focus
          intro w9 hSw
          try dsimp only at hSw
          go_simp
          try with_reducible rfl
        try simp only [Act.put, List.setIfInBounds_toArray, List.set_cons_zero, List.set_cons_succ]
        refine AnyK.two (i := 8) (j := 9) (by kernel_rfl) rfl rfl (fun K9 hK9 => ?_) (fun K9 hK9 => ?_)
        · go_simp
          refine CC.out.2.mono ?_
          rintro e w' ⟨rfl, H⟩
          change bodyPost Try.prog Try.f43 _ (Exit.panic [waitE]) _ _
          rw [← HP.out]
          exact ⟨rfl, rfl, by first | exact H.dropX | exact H.dropX.dropX | exact H.dropX.dropX.dropX⟩
        · go_simp
          refine hK9.out _ _ (fun _ => QA) ?_
          clear hK9 K9
          try simp only [Act.put, List.setIfInBounds_toArray, List.set_cons_zero, List.set_cons_succ]
          refine AnyK.one (i := 8) (by kernel_rfl) rfl (fun K9 hK9 => ?_)
          go_simp
          refine CC.out.1.mono ?_
          rintro e w' ⟨rfl, H⟩
          change bodyPost Try.prog Try.f43 _ (Exit.panic [waitE]) _ _
          rw [← HP.out]
          exact ⟨rfl, rfl, by first | exact H.dropX | exact H.dropX.dropX | exact H.dropX.dropX.dropX⟩
      | some now =>
        have HP : Hid ((Wk.ask (aLeave me r now) fun _ => leaveP me (rs.drop (k + 1))).run x2 = res) := Lib.hid ((Wk.run_some (k := fun now => .ask (aLeave me r now) fun _ => leaveP me (rs.drop (k + 1))) ha).symm.trans hP1)
        have HF2 := Lib.hid (HF.out.ask good_now ha)
        have HSp2 := Lib.hid (sp_ask HSp.out ha)
        have HM2 := Lib.hid (askT_mem ha).1
        clear hP1
        go_upto_region 4 with fail
        go_cut [6] (fun s6 wx => ∃ nb : Nat, s6 = .pointer (some ⟨nb, 0, none⟩) ∧ Heap w0 wx (pl.F x2.sh (T.of x2) ++ (X ++ [tkP pl.tb c.wb b0 me, blkP kb 29 #[.int .i64 r], blkP nb 2 #[.int .i64 now]])))
        case first =>
          refine AnyK.start (ks := [8, 10]) (S := fun w' => w'.cell? ⟨b0, 0, none⟩ = some (.pointer (some ⟨pl.tb, 0, none⟩)) ∧ w'.cell? ⟨b0, 1, none⟩ = some (.pointer (some ⟨c.wb, 0, none⟩)) ∧ w'.cell? ⟨c.wb, 2, none⟩ = some (.pointer (some ⟨c.eb, 0, none⟩))) (by kernel_rfl) (by exact q0) (fun _ => ?_)
          refine AnyK.takeB (i := 0) (v := ?_) rfl (by kernel_rfl) (by kernel_rfl) (by kernel_rfl) (by kernel_rfl) (fun _ _ _ h => h) (Or.inl ⟨by rfl, ?_⟩) (by exact q0) ?_
          rotate_left
          focus
            intro w9 hSw
            try dsimp only at hSw
            go_simp
            try with_reducible rfl
          try simp only [Act.put, List.setIfInBounds_toArray, List.set_cons_zero, List.set_cons_succ]
          refine AnyK.takeB (i := 1) (v := ?_) rfl (by kernel_rfl) (by kernel_rfl) (by kernel_rfl) (by kernel_rfl) (fun _ _ _ h => h) (Or.inl ⟨by rfl, ?_⟩) (by exact q0) ?_
          rotate_left
          focus
            intro w9 hSw
            try dsimp only at hSw
            go_simp
            try with_reducible rfl
          try simp only [Act.put, List.setIfInBounds_toArray, List.set_cons_zero, List.set_cons_succ]
          refine AnyK.takeB (i := 2) (v := ?_) rfl (by kernel_rfl) (by kernel_rfl) (by kernel_rfl) (by kernel_rfl) (fun _ _ _ h => h) (Or.inl ⟨by rfl, ?_⟩) (by exact q0) ?_
          rotate_left
          focus
            intro w9 hSw
            try dsimp only at hSw
            go_simp
            try with_reducible rfl
          try simp only [Act.put, List.setIfInBounds_toArray, List.set_cons_zero, List.set_cons_succ]
          refine AnyK.takeB (i := 3) (v := ?_) rfl (by kernel_rfl) (by kernel_rfl) (by kernel_rfl) (by kernel_rfl) (fun _ _ _ h => h) (Or.inl ⟨by rfl, ?_⟩) (by exact q0) ?_
          rotate_left
          focus
            intro w9 hSw
            try dsimp only at hSw
            go_simp
            try with_reducible rfl
          try simp only [Act.put, List.setIfInBounds_toArray, List.set_cons_zero, List.set_cons_succ]
          refine AnyK.takeB (i := 4) (v := ?_) rfl (by kernel_rfl) (by kernel_rfl) (by kernel_rfl) (by kernel_rfl) (fun _ _ _ h => h) (Or.inl ⟨by rfl, ?_⟩) (by exact q0) ?_
          rotate_left
          focus
            intro w9 hSw
            try dsimp only at hSw
            go_simp
            try with_reducible rfl
          try simp only [Act.put, List.setIfInBounds_toArray, List.set_cons_zero, List.set_cons_succ]
          refine AnyK.takeB (i := 5) (v := ?_) rfl (by kernel_rfl) (by kernel_rfl) (by kernel_rfl) (by kernel_rfl) (fun _ _ _ h => h) (Or.inl ⟨by rfl, ?_⟩) (by exact q0) ?_
          rotate_left
          focus
            intro w9 hSw
            try dsimp only at hSw
            go_simp
            try with_reducible rfl
          try simp only [Act.put, List.setIfInBounds_toArray, List.set_cons_zero, List.set_cons_succ]
          refine AnyK.takeB (i := 6) (v := ?_) rfl (by kernel_rfl) (by kernel_rfl) (by kernel_rfl) (by kernel_rfl) (fun _ _ _ h => h) (Or.inl ⟨by rfl, ?_⟩) (by exact q0) ?_
          rotate_left
          focus
            intro w9 hSw
            try dsimp only at hSw
            go_simp
            try with_reducible rfl
          try simp only [Act.put, List.setIfInBounds_toArray, List.set_cons_zero, List.set_cons_succ]
          refine AnyK.takeB (i := 7) (v := ?_) rfl (by kernel_rfl) (by kernel_rfl) (by kernel_rfl) (by kernel_rfl) (fun _ _ _ h => h) (Or.inl ⟨by rfl, ?_⟩) (by exact q0) ?_
          rotate_left
          focus
            intro w9 hSw
            try dsimp only at hSw
            go_simp
            try with_reducible rfl
          try simp only [Act.put, List.setIfInBounds_toArray, List.set_cons_zero, List.set_cons_succ]
          refine AnyK.two (i := 8) (j := 9) (by kernel_rfl) rfl rfl (fun K9 hK9 => ?_) (fun K9 hK9 => ?_)
          · go_simp
            refine CC.out.2.mono ?_
            rintro e w' ⟨rfl, H⟩
            obtain ⟨k0, k1, k2⟩ := tk_cells (tk := b0) (me := me) (tb := pl.tb) (wb := c.wb) H X.length (by simp [tkP])
            obtain ⟨v0, v1, v2, v3, v4, v5⟩ := wd_cells wp H
            refine hK9.out _ _ (fun hx => absurd (by decide) hx) ?_
            clear hK9 K9
            try simp only [Act.put, List.setIfInBounds_toArray, List.set_cons_zero, List.set_cons_succ]
            refine AnyK.one (i := 9) (by kernel_rfl) rfl (fun K9 hK9 => ?_)
            go_simp
            refine hK9.out _ _ (fun _ => ⟨((Fr.refl nob _).alloc _).cell' k0 (fun x => x), ((Fr.refl nob _).alloc _).cell' k1 (fun x => x), ((Fr.refl nob _).alloc _).cell' v2 (fun x => x)⟩) ?_
            clear hK9 K9
            try simp only [Act.put, List.setIfInBounds_toArray, List.set_cons_zero, List.set_cons_succ]
            refine AnyK.one (i := 10) (by kernel_rfl) rfl (fun K9 hK9 => ?_)
            go_simp
            refine hK9.out _ _ (fun hx => absurd (by decide) hx) ?_
            clear hK9 K9
            try simp only [Act.put, List.setIfInBounds_toArray, List.set_cons_zero, List.set_cons_succ]
            refine AnyK.done (by kernel_rfl) ?_ _
            go_wp2_with fail
            go_meet
            have HA := H.alloc 2 #[.int .i64 now]
            simp only [List.append_assoc, List.cons_append, List.nil_append] at HA
            exact ⟨_, rfl, HA⟩
          · go_simp
            refine hK9.out _ _ (fun _ => QA) ?_
            clear hK9 K9
            try simp only [Act.put, List.setIfInBounds_toArray, List.set_cons_zero, List.set_cons_succ]
            refine AnyK.one (i := 8) (by kernel_rfl) rfl (fun K9 hK9 => ?_)
            go_simp
            refine CC.out.1.mono ?_
            rintro e w' ⟨rfl, H⟩
            have BN := x_blk (b := z1.heap.size) (t := 2) (cs := #[.int .i64 0]) H (X.length + 2) (by simp)
            have cN : w'.cell? ⟨z1.heap.size, 0, none⟩ = some (.int .i64 0) := BN.cell 0
            have zN := BN.froz 0
            refine hK9.out _ _ (fun hx => absurd (by decide) hx) ?_
            clear hK9 K9
            try simp only [Act.put, List.setIfInBounds_toArray, List.set_cons_zero, List.set_cons_succ]
            refine AnyK.one (i := 10) (by kernel_rfl) rfl (fun K9 hK9 => ?_)
            go_simp
            refine hK9.out _ _ (fun hx => absurd (by decide) hx) ?_
            clear hK9 K9
            try simp only [Act.put, List.setIfInBounds_toArray, List.set_cons_zero, List.set_cons_succ]
            refine AnyK.done (by kernel_rfl) ?_ _
            go_wp2_with fail
            go_meet
            have HA := H.setX (b := z1.heap.size) (t := 2) (cs := #[.int .i64 0]) (X.length + 2) (by simp) 0 (.int .i64 now)
            simp only [List.append_assoc] at HA
            rw [List.set_append_right _ _ (by omega)] at HA
            simp only [Nat.add_sub_cancel_left] at HA
            exact ⟨_, rfl, HA⟩
        case rest =>
          obtain ⟨nb, rfl, H2⟩ := hcut
          have C := Do_wd H2 hin HF2.out 85 #[] #[.pointer (some ⟨b0, 0, none⟩), .pointer (some ⟨kb, 0, none⟩), .pointer (some ⟨nb, 0, none⟩)] leave_enters (aLeave me r now) (fun T z ok hsp hz => leave_touch (me := me) (now := now) wp hz X.length (by simp [tkP]) (X.length + 1) (X.length + 2) r (by simp) (by simp) ok (by omega))
          obtain ⟨k0, k1, k2⟩ := tk_cells (tk := b0) (me := me) (tb := pl.tb) (wb := c.wb) H2 X.length (by simp [tkP])
          rcases ha2 : askT (aLeave me r now) x2 with ⟨q, x3⟩
          rw [ha2] at C
          have hP2 := HP.out
          have CC2 := Lib.hid C
          clear C H2 HP q0 QA CC HH
          cases q with
          | none =>
            have HP : Hid ((.wait, x3) = res) := Lib.hid ((Wk.run_none (k := fun _ => leaveP me (rs.drop (k + 1))) ha2).symm.trans hP2)
            clear hP2
            go_wp2_with fail
            refine CC2.out.mono ?_
            rintro e w' ⟨rfl, H⟩
            change bodyPost Try.prog Try.f43 _ (Exit.panic [waitE]) _ _
            rw [← HP.out]
            exact ⟨rfl, rfl, by first | exact H.dropX | exact H.dropX.dropX | exact H.dropX.dropX.dropX⟩
          | some y =>
            have HP : Hid ((leaveP me (rs.drop (k + 1))).run x3 = res) := Lib.hid ((Wk.run_some (k := fun _ => leaveP me (rs.drop (k + 1))) ha2).symm.trans hP2)
            have HF3 := Lib.hid (HF2.out.ask0 (fun hsp => good_leave me r now (HSp2.out hsp now HM2.out)) ha2)
            have HSp3 := Lib.hid (sp_ask HSp2.out ha2)
            clear hP2 HF HF2 HSp
            go_wp2_with fail
            refine CC2.out.mono ?_
            rintro e w3 ⟨rfl, H⟩
            have HX : Hid (Heap w0 w3 (pl.F x3.sh (T.of x3) ++ (X ++ [tkP pl.tb c.wb b0 me]))) := Lib.hid (by
              have H' : Heap w0 w3 (pl.F x3.sh (T.of x3) ++ ((X ++ [tkP pl.tb c.wb b0 me]) ++ [blkP kb 29 #[.int .i64 r], blkP nb 2 #[.int .i64 now]])) := by rw [List.append_assoc]; exact H
              exact H'.dropX)
            clear H CC2 k0 k1 k2 HKB
            go_wp2_with fail
            exact ⟨⟨k + 1, x3, by go_num, by omega, HP, HF3, HSp3, HX⟩, by simp [intOf]; omega⟩
    · have hd : rs.drop k = [] := List.drop_eq_nil_of_le (by omega)
      have hP := HP.out
      rw [hd] at hP
      have HP3 : Hid ((.done (), x1) = res) := Lib.hid hP
      clear hP HP hd
      go_wp2_with fail
      go_end0
      rw [← HP3.out]
      exact ⟨_, [], rfl, ⟨rfl, rfl⟩, HF.out, by rw [List.append_nil]; exact HH.out.dropX⟩
end
end Go.Proofs.Ythkohomogknddaa
