/- HelpAgain. No condition. -/
import Derived.Test.YthkohomogknddaaWHn
namespace Go.Proofs.Ythkohomogknddaa
open Go Go.RowKit
set_option linter.unusedVariables false
set_option linter.unusedSimpArgs false
set_option maxRecDepth 100000
def agR (k : Nat) : Rc := ⟨tolds k, List.replicate k 0, 1, 0, 200, 88⟩
def agL (k st : Nat) : List Nk := (fresh k).set st ⟨44, false, 200 + 10 * (st : Int), 201 + 10 * (st : Int)⟩
def agW (k st : Nat) : Wd := { ndW 1 k with ar := nkS (agL k st), rt := ⟨[(agR k).ent], 40⟩ }
theorem cast_w {K : Act → World → Prop} {a : Act} {w w' : World} (e : w = w') (h : K a w') : K a w := e ▸ h
theorem agL_len (k st : Nat) : (agL k st).length = k := by simp [agL, fresh_len]
theorem agL_no {k st : Nat} (h : k ≤ st) : agL k st = fresh k := List.set_eq_of_length_le (by rw [fresh_len]; exact h)
theorem agW_ok {k st : Nat} (hk : k ≤ 5) : WdOk 10 (agW k st) := by
  have h := ndW_ok (t := 1) (k := k) (es := [(agR k).ent]) hk (by omega) (by simp [agR, Rc.ent, tolds_len]; omega)
  exact ⟨nkS_ok (by rw [agL_len]; exact hk) (Nat.le_refl _), h.ep, h.rt⟩
theorem agW_look (k st : Nat) : lookRt 1 (agW k st).rt = agR k := rfl
theorem again_bad {k st : Nat} (hk : 1 ≤ k ∧ k ≤ 4) (hs : st < k) : ∃ l1 l2 s1, solH 1 (agR k) (agW k st) = (l1, false, s1) ∧ solH 1 (agR k) s1 = (l2, false, s1) ∧ l1.length ≤ 100 ∧ l2.length ≤ 100 ∧
    arAt s1.ar (told 0) = some 2 ∧ (wayAr (told 0) 0 s1.ar).1 = 200 ∧ stateRt 1 s1.rt = 0 ∧ True ∧ lookRt 1 s1.rt = agR k := by
  obtain ⟨h1, h2⟩ := hk
  rcases (by omega : k = 1 ∨ k = 2 ∨ k = 3 ∨ k = 4) with rfl | rfl | rfl | rfl
  · rcases (by omega : st = 0) with rfl
    exact ⟨_, _, _, rfl, rfl, by decide, by decide, rfl, rfl, rfl, trivial, rfl⟩
  · rcases (by omega : st = 0 ∨ st = 1) with rfl | rfl
    · exact ⟨_, _, _, rfl, rfl, by decide, by decide, rfl, rfl, rfl, trivial, rfl⟩
    · exact ⟨_, _, _, rfl, rfl, by decide, by decide, rfl, rfl, rfl, trivial, rfl⟩
  · rcases (by omega : st = 0 ∨ st = 1 ∨ st = 2) with rfl | rfl | rfl
    · exact ⟨_, _, _, rfl, rfl, by decide, by decide, rfl, rfl, rfl, trivial, rfl⟩
    · exact ⟨_, _, _, rfl, rfl, by decide, by decide, rfl, rfl, rfl, trivial, rfl⟩
    · exact ⟨_, _, _, rfl, rfl, by decide, by decide, rfl, rfl, rfl, trivial, rfl⟩
  · rcases (by omega : st = 0 ∨ st = 1 ∨ st = 2 ∨ st = 3) with rfl | rfl | rfl | rfl
    · exact ⟨_, _, _, rfl, rfl, by decide, by decide, rfl, rfl, rfl, trivial, rfl⟩
    · exact ⟨_, _, _, rfl, rfl, by decide, by decide, rfl, rfl, rfl, trivial, rfl⟩
    · exact ⟨_, _, _, rfl, rfl, by decide, by decide, rfl, rfl, rfl, trivial, rfl⟩
    · exact ⟨_, _, _, rfl, rfl, by decide, by decide, rfl, rfl, rfl, trivial, rfl⟩
theorem again_ok {k st : Nat} (hk : 1 ≤ k ∧ k ≤ 4) (hs : k ≤ st) : ∃ l1 l2 s1, solH 1 (agR k) (agW k st) = (l1, true, s1) ∧ solH 1 (agR k) s1 = (l2, true, s1) ∧ l1.length ≤ 100 ∧ l2.length ≤ 100 ∧
    arAt s1.ar (told 0) = some 2 ∧ (wayAr (told 0) 0 s1.ar).1 = 88 ∧ stateRt 1 s1.rt = 2 ∧ True ∧ lookRt 1 s1.rt = agR k := by
  obtain ⟨h1, h2⟩ := hk
  have e : agW k st = agW k 4 := by unfold agW; rw [agL_no hs, agL_no h2]
  rw [e]
  rcases (by omega : k = 1 ∨ k = 2 ∨ k = 3 ∨ k = 4) with rfl | rfl | rfl | rfl
  · exact ⟨_, _, _, rfl, rfl, by decide, by decide, rfl, rfl, rfl, trivial, rfl⟩
  · exact ⟨_, _, _, rfl, rfl, by decide, by decide, rfl, rfl, rfl, trivial, rfl⟩
  · exact ⟨_, _, _, rfl, rfl, by decide, by decide, rfl, rfl, rfl, trivial, rfl⟩
  · exact ⟨_, _, _, rfl, rfl, by decide, by decide, rfl, rfl, rfl, trivial, rfl⟩
set_option maxHeartbeats 8000000 in
theorem HelpAgain_walk (many : Int) (hmany : 0 ≤ many ∧ many ≤ 255) (stale : Int) (hst : 0 ≤ stale ∧ stale ≤ 255) (times : Int) (htm : 0 ≤ times ∧ times ≤ 255) (w : World) :
    Calls Try.prog 11 #[.int .u8 many, .int .u8 stale, .int .u8 times] w fun e w' => e = .returned (.bool true) ∧ Below w.heap.size w w' := by
  obtain ⟨m0, m1⟩ := hmany
  obtain ⟨s0, s1⟩ := hst
  obtain ⟨q0, q1⟩ := htm
  obtain ⟨k, hk⟩ : ∃ k : Nat, 1 + many % 4 = (k : Int) := ⟨(1 + many % 4).toNat, by omega⟩
  have hkb : 1 ≤ k ∧ k ≤ 4 := by omega
  obtain ⟨st, hst⟩ : ∃ q : Nat, stale = (q : Int) := ⟨stale.toNat, by omega⟩
  obtain ⟨rounds, hrd⟩ : ∃ r : Nat, 2 + times % 4 = (r : Int) := ⟨(2 + times % 4).toNat, by omega⟩
  have hrb : rounds ≤ 5 := by omega
  subst hst
  have hst9 : st ≤ 255 := by omega
  obtain ⟨hk1, hk4⟩ := hkb
  have hkb := Lib.hid (And.intro hk1 hk4)
  go_enter Try.func11, Try.ntmps11
  go_wp2_with fail
  refine (Awake9 w).mono ?_
  rintro e w1 ⟨rfl, F1⟩
  have CN := Lib.hid (Nodes_h ((Heap.start w).go F1) 1 k (by omega) (by omega))
  clear F1
  go_wp2_with fail
  try simp only [hk]
  refine CN.out.mono ?_
  rintro e w2 ⟨c, a, cp, _, rfl, H2⟩
  clear CN hk m0 m1
  obtain ⟨v0, v1, v2, v3, v4, v5⟩ := wdL_cells H2
  have HH := Lib.hid H2
  clear H2
  by_cases hbad : st < k
  · have HBD := Lib.hid hbad
    go_upto_region 7 with fail
    go_cut [] (fun wx => Hid (Heap w wx (wdL c { ndW 1 k with ar := nkS (agL k st) } ++ [rowP 29 1 (.slice a k cp) k (intC (tolds k))])))
    case first =>
      have HZ := HH.out.drew
      obtain ⟨g9, ee, hcc, hat⟩ := (HZ.row 4 (t := 29) (sz := 1) (n := k) (v := .slice a k cp) (us := intC (tolds k)) rfl).rdv.at (by omega)
      have ee : a = some g9 := by simpa using ee
      subst ee
      have y1 := hat st _ (tolds_get hbad)
      have q0 : w2.drew.cell? ⟨c.wb, 0, none⟩ = some (.pointer (some ⟨c.ab, 0, none⟩)) ∧ w2.drew.cell? (g9.add st) = some (.int .i64 (told st)) := ⟨(wdL_cells HZ).1, y1⟩
      have C := SwapInfo_h HZ 1 rfl ((nkS_ok (N := 10) (by rw [fresh_len]; omega) (Nat.le_refl _)).ok (by omega)) (told st) 0 44
      rw [show (ndW 1 k).ar = nkS (fresh k) from rfl, nk_swapInfo (fresh_get hbad) (by rw [fresh_len]; omega), if_pos rfl] at C
      have C := Lib.hid C
      clear v0 v1 v2 v3 v4 v5 HZ hat y1 HH
      refine wp_region_noPanic ?_
      refine AnyK.start (ks := [8]) (S := fun w' => w'.cell? ⟨c.wb, 0, none⟩ = some (.pointer (some ⟨c.ab, 0, none⟩)) ∧ w'.cell? (g9.add st) = some (.int .i64 (told st))) (by kernel_rfl) (by exact q0) (fun _ => ?_)
      refine AnyK.takeB (i := 0) (v := ?_) rfl (by kernel_rfl) (by kernel_rfl) (by kernel_rfl) (by kernel_rfl) (fun _ _ _ h => h) (Or.inl ⟨by rfl, ?_⟩) (by exact q0) ?_
      rotate_left
      focus
        intro w9 hSw
        try dsimp only at hSw
        go_simp
        try with_reducible rfl
      try simp only [Act.put, List.setIfInBounds_toArray, List.set_cons_zero, List.set_cons_succ]
      refine AnyK.takeB (i := 1) (v := ?_) rfl (by kernel_rfl) (by kernel_rfl) (by kernel_rfl) (by kernel_rfl) (fun _ _ _ h => h) (Or.inl ⟨by rfl, ?_⟩) (by exact q0) ?_
      rotate_left
      focus
        intro w9 hSw
        try dsimp only at hSw
        go_simp
        try with_reducible rfl
      try simp only [Act.put, List.setIfInBounds_toArray, List.set_cons_zero, List.set_cons_succ]
      refine AnyK.takeB (i := 2) (v := ?_) rfl (by kernel_rfl) (by kernel_rfl) (by kernel_rfl) (by kernel_rfl) (fun _ _ _ h => h) (Or.inl ⟨by rfl, ?_⟩) (by exact q0) ?_
      rotate_left
      focus
        intro w9 hSw
        try dsimp only at hSw
        go_simp
        try with_reducible rfl
      try simp only [Act.put, List.setIfInBounds_toArray, List.set_cons_zero, List.set_cons_succ]
      refine AnyK.takeB (i := 3) (v := ?_) rfl (by kernel_rfl) (by kernel_rfl) (by kernel_rfl) (by kernel_rfl) (fun _ _ _ h => h) (Or.inl ⟨by rfl, ?_⟩) (by exact q0) ?_
      rotate_left
      focus
        intro w9 hSw
        try dsimp only at hSw
        go_simp
        try with_reducible rfl
      try simp only [Act.put, List.setIfInBounds_toArray, List.set_cons_zero, List.set_cons_succ]
      refine AnyK.takeB (i := 4) (v := ?_) rfl (by kernel_rfl) (by kernel_rfl) (by kernel_rfl) (by kernel_rfl) (fun _ _ _ h => h) (Or.inl ⟨by rfl, ?_⟩) (by exact q0) ?_
      rotate_left
      focus
        intro w9 hSw
        try dsimp only at hSw
        go_simp
        try with_reducible rfl
      try simp only [Act.put, List.setIfInBounds_toArray, List.set_cons_zero, List.set_cons_succ]
      refine AnyK.takeB (i := 5) (v := ?_) rfl (by kernel_rfl) (by kernel_rfl) (by kernel_rfl) (by kernel_rfl) (fun _ _ _ h => h) (Or.inl ⟨by rfl, ?_⟩) (by exact q0) ?_
      rotate_left
      focus
        intro w9 hSw
        try dsimp only at hSw
        go_simp
        try with_reducible rfl
      try simp only [Act.put, List.setIfInBounds_toArray, List.set_cons_zero, List.set_cons_succ]
      refine AnyK.takeB (i := 6) (v := ?_) rfl (by kernel_rfl) (by kernel_rfl) (by kernel_rfl) (by kernel_rfl) (fun _ _ _ h => h) (Or.inl ⟨by rfl, ?_⟩) (by exact q0) ?_
      rotate_left
      focus
        intro w9 hSw
        try dsimp only at hSw
        go_simp
        try with_reducible rfl
      try simp only [Act.put, List.setIfInBounds_toArray, List.set_cons_zero, List.set_cons_succ]
      refine AnyK.takeB (i := 7) (v := ?_) rfl (by kernel_rfl) (by kernel_rfl) (by kernel_rfl) (by kernel_rfl) (fun _ _ _ h => h) (Or.inl ⟨by rfl, ?_⟩) (by exact q0) ?_
      rotate_left
      focus
        intro w9 hSw
        try dsimp only at hSw
        go_simp
        try with_reducible rfl
      try simp only [Act.put, List.setIfInBounds_toArray, List.set_cons_zero, List.set_cons_succ]
      refine AnyK.one (i := 8) (by kernel_rfl) rfl (fun K9 hK9 => ?_)
      go_simp
      refine C.out.mono ?_
      rintro e y9 ⟨rfl, H9⟩
      refine hK9.out _ _ (fun hx => absurd (by decide) hx) ?_
      clear hK9 K9
      try simp only [Act.put, List.setIfInBounds_toArray, List.set_cons_zero, List.set_cons_succ]
      refine AnyK.done (by kernel_rfl) ?_ _
      refine NoPanic.normal ?_
      go_wp2_with fail
      go_meet
      exact Lib.hid H9
    case rest =>
      rename World => wx
      have HW := hcut
      clear v0 v1 v2 v3 v4 v5 HH hcut
      obtain ⟨v0, v1, v2, v3, v4, v5⟩ := wdL_cells HW.out
      have v1d := (wdL_cells HW.out.drew).2.1
      go_upto_region 8 with fail
      go_cut [11, 12] (fun s11 s12 wx => s11 = .int .i64 1 ∧ s12 = .bool true ∧ Hid (Heap w wx (wdL c (agW k st) ++ [rowP 29 1 (.slice a k cp) k (intC (tolds k))])))
      case first =>
        have q0 : wx.drew.cell? ⟨c.wb, 1, none⟩ = some (.pointer (some ⟨c.rb, 0, none⟩)) := v1d
        have HZ := Lib.hid HW.out.drew
        clear v0 v1 v2 v3 v4 v5 v1d HW
        rcases (by omega : k = 1 ∨ k = 2 ∨ k = 3 ∨ k = 4) with hk9 | hk9 | hk9 | hk9
        · subst hk9
          refine wp_region_noPanic ?_
          refine AnyK.start (ks := [8, 9, 10, 11, 12, 13]) (S := fun w' => w'.cell? ⟨c.wb, 1, none⟩ = some (.pointer (some ⟨c.rb, 0, none⟩))) (by kernel_rfl) (by exact q0) (fun _ => ?_)
          refine AnyK.takeB (i := 0) (v := ?_) rfl (by kernel_rfl) (by kernel_rfl) (by kernel_rfl) (by kernel_rfl) (fun _ _ _ h => h) (Or.inl ⟨by rfl, ?_⟩) (by exact q0) ?_
          rotate_left
          focus
            intro w9 hSw
            try dsimp only at hSw
            go_simp
            try with_reducible rfl
          try simp only [Act.put, List.setIfInBounds_toArray, List.set_cons_zero, List.set_cons_succ]
          refine AnyK.takeB (i := 1) (v := ?_) rfl (by kernel_rfl) (by kernel_rfl) (by kernel_rfl) (by kernel_rfl) (fun _ _ _ h => h) (Or.inl ⟨by rfl, ?_⟩) (by exact q0) ?_
          rotate_left
          focus
            intro w9 hSw
            try dsimp only at hSw
            go_simp
            try with_reducible rfl
          try simp only [Act.put, List.setIfInBounds_toArray, List.set_cons_zero, List.set_cons_succ]
          refine AnyK.takeB (i := 2) (v := ?_) rfl (by kernel_rfl) (by kernel_rfl) (by kernel_rfl) (by kernel_rfl) (fun _ _ _ h => h) (Or.inl ⟨by rfl, ?_⟩) (by exact q0) ?_
          rotate_left
          focus
            intro w9 hSw
            try dsimp only at hSw
            go_simp
            try with_reducible rfl
          try simp only [Act.put, List.setIfInBounds_toArray, List.set_cons_zero, List.set_cons_succ]
          refine AnyK.takeB (i := 3) (v := ?_) rfl (by kernel_rfl) (by kernel_rfl) (by kernel_rfl) (by kernel_rfl) (fun _ _ _ h => h) (Or.inl ⟨by rfl, ?_⟩) (by exact q0) ?_
          rotate_left
          focus
            intro w9 hSw
            try dsimp only at hSw
            go_simp
            try with_reducible rfl
          try simp only [Act.put, List.setIfInBounds_toArray, List.set_cons_zero, List.set_cons_succ]
          refine AnyK.takeB (i := 4) (v := ?_) rfl (by kernel_rfl) (by kernel_rfl) (by kernel_rfl) (by kernel_rfl) (fun _ _ _ h => h) (Or.inl ⟨by rfl, ?_⟩) (by exact q0) ?_
          rotate_left
          focus
            intro w9 hSw
            try dsimp only at hSw
            go_simp
            try with_reducible rfl
          try simp only [Act.put, List.setIfInBounds_toArray, List.set_cons_zero, List.set_cons_succ]
          refine AnyK.takeB (i := 5) (v := ?_) rfl (by kernel_rfl) (by kernel_rfl) (by kernel_rfl) (by kernel_rfl) (fun _ _ _ h => h) (Or.inl ⟨by rfl, ?_⟩) (by exact q0) ?_
          rotate_left
          focus
            intro w9 hSw
            try dsimp only at hSw
            go_simp
            try with_reducible rfl
          try simp only [Act.put, List.setIfInBounds_toArray, List.set_cons_zero, List.set_cons_succ]
          generalize wx.drew = z0 at *
          have H9 := HZ.out.alloc 2 #[.int .i64 0]
          have qs : World.cell? _ ⟨c.wb, 1, none⟩ = some (.pointer (some ⟨c.rb, 0, none⟩)) := (H9.blk 0 (b := c.wb) (t := 31) (c := c.cells) (by rfl)).cell 1
          refine AnyK.one (i := 6) (by kernel_rfl) rfl (fun K9 hK9 => ?_)
          go_simp
          refine cast_w (w' := z0.alloc (.cells #[.int .i64 0] 2)) (by kernel_rfl) ?_
          refine hK9.out _ _ (fun _ => qs) ?_
          clear hK9 K9
          try simp only [Act.put, List.setIfInBounds_toArray, List.set_cons_zero, List.set_cons_succ]
          try dsimp only
          try simp only [show (IntKind.i64.wrap 1).toNat = 1 from rfl]
          refine AnyK.one (i := 7) (by kernel_rfl) rfl (fun K9 hK9 => ?_)
          go_simp
          refine hK9.out _ _ (fun _ => qs) ?_
          clear hK9 K9 qs q0
          try simp only [Act.put, List.setIfInBounds_toArray, List.set_cons_zero, List.set_cons_succ]
          generalize hg : z0.heap.size = g8 at *
          generalize hx : z0.alloc (.cells #[.int .i64 0] 2) = x8 at *
          refine AnyK.one (i := 8) (by kernel_rfl) rfl (fun K9 hK9 => ?_)
          go_simp
          refine (Make_h H9 2 rfl (agR 1) (.slice a 1 cp) (.slice (some ⟨g8, 0, none⟩) 1 1) ((H9.row 4 (t := 29) (sz := 1) (n := 1) (v := .slice a 1 cp) (us := intC (tolds 1)) rfl).rdv) (RdV.block (cs := #[.int .i64 0]) (t := 2) (g := g8) (m := 1) (sz := 1) (H9.blk 5 rfl) rfl (by decide)) (by decide) (by decide)).mono ?_
          rintro e y9 ⟨rfl, H8⟩
          have H8 : Heap w y9 ((wdL c (agW 1 st) ++ [rowP 29 1 (.slice a 1 cp) 1 (intC (tolds 1))]) ++ [blkP g8 2 #[.int .i64 0]]) := H8
          have HF := Lib.hid H8.first
          clear H8 H9
          refine hK9.out _ _ (fun hx => absurd (by decide) hx) ?_
          clear hK9 K9
          try simp only [Act.put, List.setIfInBounds_toArray, List.set_cons_zero, List.set_cons_succ]
          refine AnyK.phase (S' := fun _ => True) (ks' := []) (by kernel_rfl) ?_
          refine AnyK.take (i := 9) (v := ?_) rfl (by kernel_rfl) (by kernel_rfl) (by kernel_rfl) (by kernel_rfl) (fun _ _ _ h => h) (Or.inl ⟨by rfl, ?_⟩) (by exact trivial) ?_
          rotate_left
          focus
            intro w9 hSw
            try dsimp only at hSw
            go_simp
            try with_reducible rfl
          try simp only [Act.put, List.setIfInBounds_toArray, List.set_cons_zero, List.set_cons_succ]
          refine AnyK.take (i := 10) (v := ?_) rfl (by kernel_rfl) (by kernel_rfl) (by kernel_rfl) (by kernel_rfl) (fun _ _ _ h => h) (Or.inl ⟨by rfl, ?_⟩) (by exact trivial) ?_
          rotate_left
          focus
            intro w9 hSw
            try dsimp only at hSw
            go_simp
            try with_reducible rfl
          try simp only [Act.put, List.setIfInBounds_toArray, List.set_cons_zero, List.set_cons_succ]
          refine AnyK.take (i := 11) (v := ?_) rfl (by kernel_rfl) (by kernel_rfl) (by kernel_rfl) (by kernel_rfl) (fun _ _ _ h => h) (Or.inl ⟨by rfl, ?_⟩) (by exact trivial) ?_
          rotate_left
          focus
            intro w9 hSw
            try dsimp only at hSw
            go_simp
            try with_reducible rfl
          try simp only [Act.put, List.setIfInBounds_toArray, List.set_cons_zero, List.set_cons_succ]
          refine AnyK.take (i := 12) (v := ?_) rfl (by kernel_rfl) (by kernel_rfl) (by kernel_rfl) (by kernel_rfl) (fun _ _ _ h => h) (Or.inl ⟨by rfl, ?_⟩) (by exact trivial) ?_
          rotate_left
          focus
            intro w9 hSw
            try dsimp only at hSw
            go_simp
            try with_reducible rfl
          try simp only [Act.put, List.setIfInBounds_toArray, List.set_cons_zero, List.set_cons_succ]
          refine AnyK.take (i := 13) (v := ?_) rfl (by kernel_rfl) (by kernel_rfl) (by kernel_rfl) (by kernel_rfl) (fun _ _ _ h => h) (Or.inl ⟨by rfl, ?_⟩) (by exact trivial) ?_
          rotate_left
          focus
            intro w9 hSw
            try dsimp only at hSw
            go_simp
            try with_reducible rfl
          try simp only [Act.put, List.setIfInBounds_toArray, List.set_cons_zero, List.set_cons_succ]
          refine AnyK.done (by kernel_rfl) ?_ _
          refine NoPanic.normal ?_
          go_wp2_with fail
          go_meet
          exact ⟨rfl, rfl, HF⟩
        · subst hk9
          refine wp_region_noPanic ?_
          refine AnyK.start (ks := [8, 9, 10, 11, 12, 13]) (S := fun w' => w'.cell? ⟨c.wb, 1, none⟩ = some (.pointer (some ⟨c.rb, 0, none⟩))) (by kernel_rfl) (by exact q0) (fun _ => ?_)
          refine AnyK.takeB (i := 0) (v := ?_) rfl (by kernel_rfl) (by kernel_rfl) (by kernel_rfl) (by kernel_rfl) (fun _ _ _ h => h) (Or.inl ⟨by rfl, ?_⟩) (by exact q0) ?_
          rotate_left
          focus
            intro w9 hSw
            try dsimp only at hSw
            go_simp
            try with_reducible rfl
          try simp only [Act.put, List.setIfInBounds_toArray, List.set_cons_zero, List.set_cons_succ]
          refine AnyK.takeB (i := 1) (v := ?_) rfl (by kernel_rfl) (by kernel_rfl) (by kernel_rfl) (by kernel_rfl) (fun _ _ _ h => h) (Or.inl ⟨by rfl, ?_⟩) (by exact q0) ?_
          rotate_left
          focus
            intro w9 hSw
            try dsimp only at hSw
            go_simp
            try with_reducible rfl
          try simp only [Act.put, List.setIfInBounds_toArray, List.set_cons_zero, List.set_cons_succ]
          refine AnyK.takeB (i := 2) (v := ?_) rfl (by kernel_rfl) (by kernel_rfl) (by kernel_rfl) (by kernel_rfl) (fun _ _ _ h => h) (Or.inl ⟨by rfl, ?_⟩) (by exact q0) ?_
          rotate_left
          focus
            intro w9 hSw
            try dsimp only at hSw
            go_simp
            try with_reducible rfl
          try simp only [Act.put, List.setIfInBounds_toArray, List.set_cons_zero, List.set_cons_succ]
          refine AnyK.takeB (i := 3) (v := ?_) rfl (by kernel_rfl) (by kernel_rfl) (by kernel_rfl) (by kernel_rfl) (fun _ _ _ h => h) (Or.inl ⟨by rfl, ?_⟩) (by exact q0) ?_
          rotate_left
          focus
            intro w9 hSw
            try dsimp only at hSw
            go_simp
            try with_reducible rfl
          try simp only [Act.put, List.setIfInBounds_toArray, List.set_cons_zero, List.set_cons_succ]
          refine AnyK.takeB (i := 4) (v := ?_) rfl (by kernel_rfl) (by kernel_rfl) (by kernel_rfl) (by kernel_rfl) (fun _ _ _ h => h) (Or.inl ⟨by rfl, ?_⟩) (by exact q0) ?_
          rotate_left
          focus
            intro w9 hSw
            try dsimp only at hSw
            go_simp
            try with_reducible rfl
          try simp only [Act.put, List.setIfInBounds_toArray, List.set_cons_zero, List.set_cons_succ]
          refine AnyK.takeB (i := 5) (v := ?_) rfl (by kernel_rfl) (by kernel_rfl) (by kernel_rfl) (by kernel_rfl) (fun _ _ _ h => h) (Or.inl ⟨by rfl, ?_⟩) (by exact q0) ?_
          rotate_left
          focus
            intro w9 hSw
            try dsimp only at hSw
            go_simp
            try with_reducible rfl
          try simp only [Act.put, List.setIfInBounds_toArray, List.set_cons_zero, List.set_cons_succ]
          generalize wx.drew = z0 at *
          have H9 := HZ.out.alloc 2 #[.int .i64 0, .int .i64 0]
          have qs : World.cell? _ ⟨c.wb, 1, none⟩ = some (.pointer (some ⟨c.rb, 0, none⟩)) := (H9.blk 0 (b := c.wb) (t := 31) (c := c.cells) (by rfl)).cell 1
          refine AnyK.one (i := 6) (by kernel_rfl) rfl (fun K9 hK9 => ?_)
          go_simp
          refine cast_w (w' := z0.alloc (.cells #[.int .i64 0, .int .i64 0] 2)) (by kernel_rfl) ?_
          refine hK9.out _ _ (fun _ => qs) ?_
          clear hK9 K9
          try simp only [Act.put, List.setIfInBounds_toArray, List.set_cons_zero, List.set_cons_succ]
          try dsimp only
          try simp only [show (IntKind.i64.wrap 2).toNat = 2 from rfl]
          refine AnyK.one (i := 7) (by kernel_rfl) rfl (fun K9 hK9 => ?_)
          go_simp
          refine hK9.out _ _ (fun _ => qs) ?_
          clear hK9 K9 qs q0
          try simp only [Act.put, List.setIfInBounds_toArray, List.set_cons_zero, List.set_cons_succ]
          generalize hg : z0.heap.size = g8 at *
          generalize hx : z0.alloc (.cells #[.int .i64 0, .int .i64 0] 2) = x8 at *
          refine AnyK.one (i := 8) (by kernel_rfl) rfl (fun K9 hK9 => ?_)
          go_simp
          refine (Make_h H9 2 rfl (agR 2) (.slice a 2 cp) (.slice (some ⟨g8, 0, none⟩) 2 2) ((H9.row 4 (t := 29) (sz := 1) (n := 2) (v := .slice a 2 cp) (us := intC (tolds 2)) rfl).rdv) (RdV.block (cs := #[.int .i64 0, .int .i64 0]) (t := 2) (g := g8) (m := 2) (sz := 1) (H9.blk 5 rfl) rfl (by decide)) (by decide) (by decide)).mono ?_
          rintro e y9 ⟨rfl, H8⟩
          have H8 : Heap w y9 ((wdL c (agW 2 st) ++ [rowP 29 1 (.slice a 2 cp) 2 (intC (tolds 2))]) ++ [blkP g8 2 #[.int .i64 0, .int .i64 0]]) := H8
          have HF := Lib.hid H8.first
          clear H8 H9
          refine hK9.out _ _ (fun hx => absurd (by decide) hx) ?_
          clear hK9 K9
          try simp only [Act.put, List.setIfInBounds_toArray, List.set_cons_zero, List.set_cons_succ]
          refine AnyK.phase (S' := fun _ => True) (ks' := []) (by kernel_rfl) ?_
          refine AnyK.take (i := 9) (v := ?_) rfl (by kernel_rfl) (by kernel_rfl) (by kernel_rfl) (by kernel_rfl) (fun _ _ _ h => h) (Or.inl ⟨by rfl, ?_⟩) (by exact trivial) ?_
          rotate_left
          focus
            intro w9 hSw
            try dsimp only at hSw
            go_simp
            try with_reducible rfl
          try simp only [Act.put, List.setIfInBounds_toArray, List.set_cons_zero, List.set_cons_succ]
          refine AnyK.take (i := 10) (v := ?_) rfl (by kernel_rfl) (by kernel_rfl) (by kernel_rfl) (by kernel_rfl) (fun _ _ _ h => h) (Or.inl ⟨by rfl, ?_⟩) (by exact trivial) ?_
          rotate_left
          focus
            intro w9 hSw
            try dsimp only at hSw
            go_simp
            try with_reducible rfl
          try simp only [Act.put, List.setIfInBounds_toArray, List.set_cons_zero, List.set_cons_succ]
          refine AnyK.take (i := 11) (v := ?_) rfl (by kernel_rfl) (by kernel_rfl) (by kernel_rfl) (by kernel_rfl) (fun _ _ _ h => h) (Or.inl ⟨by rfl, ?_⟩) (by exact trivial) ?_
          rotate_left
          focus
            intro w9 hSw
            try dsimp only at hSw
            go_simp
            try with_reducible rfl
          try simp only [Act.put, List.setIfInBounds_toArray, List.set_cons_zero, List.set_cons_succ]
          refine AnyK.take (i := 12) (v := ?_) rfl (by kernel_rfl) (by kernel_rfl) (by kernel_rfl) (by kernel_rfl) (fun _ _ _ h => h) (Or.inl ⟨by rfl, ?_⟩) (by exact trivial) ?_
          rotate_left
          focus
            intro w9 hSw
            try dsimp only at hSw
            go_simp
            try with_reducible rfl
          try simp only [Act.put, List.setIfInBounds_toArray, List.set_cons_zero, List.set_cons_succ]
          refine AnyK.take (i := 13) (v := ?_) rfl (by kernel_rfl) (by kernel_rfl) (by kernel_rfl) (by kernel_rfl) (fun _ _ _ h => h) (Or.inl ⟨by rfl, ?_⟩) (by exact trivial) ?_
          rotate_left
          focus
            intro w9 hSw
            try dsimp only at hSw
            go_simp
            try with_reducible rfl
          try simp only [Act.put, List.setIfInBounds_toArray, List.set_cons_zero, List.set_cons_succ]
          refine AnyK.done (by kernel_rfl) ?_ _
          refine NoPanic.normal ?_
          go_wp2_with fail
          go_meet
          exact ⟨rfl, rfl, HF⟩
        · subst hk9
          refine wp_region_noPanic ?_
          refine AnyK.start (ks := [8, 9, 10, 11, 12, 13]) (S := fun w' => w'.cell? ⟨c.wb, 1, none⟩ = some (.pointer (some ⟨c.rb, 0, none⟩))) (by kernel_rfl) (by exact q0) (fun _ => ?_)
          refine AnyK.takeB (i := 0) (v := ?_) rfl (by kernel_rfl) (by kernel_rfl) (by kernel_rfl) (by kernel_rfl) (fun _ _ _ h => h) (Or.inl ⟨by rfl, ?_⟩) (by exact q0) ?_
          rotate_left
          focus
            intro w9 hSw
            try dsimp only at hSw
            go_simp
            try with_reducible rfl
          try simp only [Act.put, List.setIfInBounds_toArray, List.set_cons_zero, List.set_cons_succ]
          refine AnyK.takeB (i := 1) (v := ?_) rfl (by kernel_rfl) (by kernel_rfl) (by kernel_rfl) (by kernel_rfl) (fun _ _ _ h => h) (Or.inl ⟨by rfl, ?_⟩) (by exact q0) ?_
          rotate_left
          focus
            intro w9 hSw
            try dsimp only at hSw
            go_simp
            try with_reducible rfl
          try simp only [Act.put, List.setIfInBounds_toArray, List.set_cons_zero, List.set_cons_succ]
          refine AnyK.takeB (i := 2) (v := ?_) rfl (by kernel_rfl) (by kernel_rfl) (by kernel_rfl) (by kernel_rfl) (fun _ _ _ h => h) (Or.inl ⟨by rfl, ?_⟩) (by exact q0) ?_
          rotate_left
          focus
            intro w9 hSw
            try dsimp only at hSw
            go_simp
            try with_reducible rfl
          try simp only [Act.put, List.setIfInBounds_toArray, List.set_cons_zero, List.set_cons_succ]
          refine AnyK.takeB (i := 3) (v := ?_) rfl (by kernel_rfl) (by kernel_rfl) (by kernel_rfl) (by kernel_rfl) (fun _ _ _ h => h) (Or.inl ⟨by rfl, ?_⟩) (by exact q0) ?_
          rotate_left
          focus
            intro w9 hSw
            try dsimp only at hSw
            go_simp
            try with_reducible rfl
          try simp only [Act.put, List.setIfInBounds_toArray, List.set_cons_zero, List.set_cons_succ]
          refine AnyK.takeB (i := 4) (v := ?_) rfl (by kernel_rfl) (by kernel_rfl) (by kernel_rfl) (by kernel_rfl) (fun _ _ _ h => h) (Or.inl ⟨by rfl, ?_⟩) (by exact q0) ?_
          rotate_left
          focus
            intro w9 hSw
            try dsimp only at hSw
            go_simp
            try with_reducible rfl
          try simp only [Act.put, List.setIfInBounds_toArray, List.set_cons_zero, List.set_cons_succ]
          refine AnyK.takeB (i := 5) (v := ?_) rfl (by kernel_rfl) (by kernel_rfl) (by kernel_rfl) (by kernel_rfl) (fun _ _ _ h => h) (Or.inl ⟨by rfl, ?_⟩) (by exact q0) ?_
          rotate_left
          focus
            intro w9 hSw
            try dsimp only at hSw
            go_simp
            try with_reducible rfl
          try simp only [Act.put, List.setIfInBounds_toArray, List.set_cons_zero, List.set_cons_succ]
          generalize wx.drew = z0 at *
          have H9 := HZ.out.alloc 2 #[.int .i64 0, .int .i64 0, .int .i64 0]
          have qs : World.cell? _ ⟨c.wb, 1, none⟩ = some (.pointer (some ⟨c.rb, 0, none⟩)) := (H9.blk 0 (b := c.wb) (t := 31) (c := c.cells) (by rfl)).cell 1
          refine AnyK.one (i := 6) (by kernel_rfl) rfl (fun K9 hK9 => ?_)
          go_simp
          refine cast_w (w' := z0.alloc (.cells #[.int .i64 0, .int .i64 0, .int .i64 0] 2)) (by kernel_rfl) ?_
          refine hK9.out _ _ (fun _ => qs) ?_
          clear hK9 K9
          try simp only [Act.put, List.setIfInBounds_toArray, List.set_cons_zero, List.set_cons_succ]
          try dsimp only
          try simp only [show (IntKind.i64.wrap 3).toNat = 3 from rfl]
          refine AnyK.one (i := 7) (by kernel_rfl) rfl (fun K9 hK9 => ?_)
          go_simp
          refine hK9.out _ _ (fun _ => qs) ?_
          clear hK9 K9 qs q0
          try simp only [Act.put, List.setIfInBounds_toArray, List.set_cons_zero, List.set_cons_succ]
          generalize hg : z0.heap.size = g8 at *
          generalize hx : z0.alloc (.cells #[.int .i64 0, .int .i64 0, .int .i64 0] 2) = x8 at *
          refine AnyK.one (i := 8) (by kernel_rfl) rfl (fun K9 hK9 => ?_)
          go_simp
          refine (Make_h H9 2 rfl (agR 3) (.slice a 3 cp) (.slice (some ⟨g8, 0, none⟩) 3 3) ((H9.row 4 (t := 29) (sz := 1) (n := 3) (v := .slice a 3 cp) (us := intC (tolds 3)) rfl).rdv) (RdV.block (cs := #[.int .i64 0, .int .i64 0, .int .i64 0]) (t := 2) (g := g8) (m := 3) (sz := 1) (H9.blk 5 rfl) rfl (by decide)) (by decide) (by decide)).mono ?_
          rintro e y9 ⟨rfl, H8⟩
          have H8 : Heap w y9 ((wdL c (agW 3 st) ++ [rowP 29 1 (.slice a 3 cp) 3 (intC (tolds 3))]) ++ [blkP g8 2 #[.int .i64 0, .int .i64 0, .int .i64 0]]) := H8
          have HF := Lib.hid H8.first
          clear H8 H9
          refine hK9.out _ _ (fun hx => absurd (by decide) hx) ?_
          clear hK9 K9
          try simp only [Act.put, List.setIfInBounds_toArray, List.set_cons_zero, List.set_cons_succ]
          refine AnyK.phase (S' := fun _ => True) (ks' := []) (by kernel_rfl) ?_
          refine AnyK.take (i := 9) (v := ?_) rfl (by kernel_rfl) (by kernel_rfl) (by kernel_rfl) (by kernel_rfl) (fun _ _ _ h => h) (Or.inl ⟨by rfl, ?_⟩) (by exact trivial) ?_
          rotate_left
          focus
            intro w9 hSw
            try dsimp only at hSw
            go_simp
            try with_reducible rfl
          try simp only [Act.put, List.setIfInBounds_toArray, List.set_cons_zero, List.set_cons_succ]
          refine AnyK.take (i := 10) (v := ?_) rfl (by kernel_rfl) (by kernel_rfl) (by kernel_rfl) (by kernel_rfl) (fun _ _ _ h => h) (Or.inl ⟨by rfl, ?_⟩) (by exact trivial) ?_
          rotate_left
          focus
            intro w9 hSw
            try dsimp only at hSw
            go_simp
            try with_reducible rfl
          try simp only [Act.put, List.setIfInBounds_toArray, List.set_cons_zero, List.set_cons_succ]
          refine AnyK.take (i := 11) (v := ?_) rfl (by kernel_rfl) (by kernel_rfl) (by kernel_rfl) (by kernel_rfl) (fun _ _ _ h => h) (Or.inl ⟨by rfl, ?_⟩) (by exact trivial) ?_
          rotate_left
          focus
            intro w9 hSw
            try dsimp only at hSw
            go_simp
            try with_reducible rfl
          try simp only [Act.put, List.setIfInBounds_toArray, List.set_cons_zero, List.set_cons_succ]
          refine AnyK.take (i := 12) (v := ?_) rfl (by kernel_rfl) (by kernel_rfl) (by kernel_rfl) (by kernel_rfl) (fun _ _ _ h => h) (Or.inl ⟨by rfl, ?_⟩) (by exact trivial) ?_
          rotate_left
          focus
            intro w9 hSw
            try dsimp only at hSw
            go_simp
            try with_reducible rfl
          try simp only [Act.put, List.setIfInBounds_toArray, List.set_cons_zero, List.set_cons_succ]
          refine AnyK.take (i := 13) (v := ?_) rfl (by kernel_rfl) (by kernel_rfl) (by kernel_rfl) (by kernel_rfl) (fun _ _ _ h => h) (Or.inl ⟨by rfl, ?_⟩) (by exact trivial) ?_
          rotate_left
          focus
            intro w9 hSw
            try dsimp only at hSw
            go_simp
            try with_reducible rfl
          try simp only [Act.put, List.setIfInBounds_toArray, List.set_cons_zero, List.set_cons_succ]
          refine AnyK.done (by kernel_rfl) ?_ _
          refine NoPanic.normal ?_
          go_wp2_with fail
          go_meet
          exact ⟨rfl, rfl, HF⟩
        · subst hk9
          refine wp_region_noPanic ?_
          refine AnyK.start (ks := [8, 9, 10, 11, 12, 13]) (S := fun w' => w'.cell? ⟨c.wb, 1, none⟩ = some (.pointer (some ⟨c.rb, 0, none⟩))) (by kernel_rfl) (by exact q0) (fun _ => ?_)
          refine AnyK.takeB (i := 0) (v := ?_) rfl (by kernel_rfl) (by kernel_rfl) (by kernel_rfl) (by kernel_rfl) (fun _ _ _ h => h) (Or.inl ⟨by rfl, ?_⟩) (by exact q0) ?_
          rotate_left
          focus
            intro w9 hSw
            try dsimp only at hSw
            go_simp
            try with_reducible rfl
          try simp only [Act.put, List.setIfInBounds_toArray, List.set_cons_zero, List.set_cons_succ]
          refine AnyK.takeB (i := 1) (v := ?_) rfl (by kernel_rfl) (by kernel_rfl) (by kernel_rfl) (by kernel_rfl) (fun _ _ _ h => h) (Or.inl ⟨by rfl, ?_⟩) (by exact q0) ?_
          rotate_left
          focus
            intro w9 hSw
            try dsimp only at hSw
            go_simp
            try with_reducible rfl
          try simp only [Act.put, List.setIfInBounds_toArray, List.set_cons_zero, List.set_cons_succ]
          refine AnyK.takeB (i := 2) (v := ?_) rfl (by kernel_rfl) (by kernel_rfl) (by kernel_rfl) (by kernel_rfl) (fun _ _ _ h => h) (Or.inl ⟨by rfl, ?_⟩) (by exact q0) ?_
          rotate_left
          focus
            intro w9 hSw
            try dsimp only at hSw
            go_simp
            try with_reducible rfl
          try simp only [Act.put, List.setIfInBounds_toArray, List.set_cons_zero, List.set_cons_succ]
          refine AnyK.takeB (i := 3) (v := ?_) rfl (by kernel_rfl) (by kernel_rfl) (by kernel_rfl) (by kernel_rfl) (fun _ _ _ h => h) (Or.inl ⟨by rfl, ?_⟩) (by exact q0) ?_
          rotate_left
          focus
            intro w9 hSw
            try dsimp only at hSw
            go_simp
            try with_reducible rfl
          try simp only [Act.put, List.setIfInBounds_toArray, List.set_cons_zero, List.set_cons_succ]
          refine AnyK.takeB (i := 4) (v := ?_) rfl (by kernel_rfl) (by kernel_rfl) (by kernel_rfl) (by kernel_rfl) (fun _ _ _ h => h) (Or.inl ⟨by rfl, ?_⟩) (by exact q0) ?_
          rotate_left
          focus
            intro w9 hSw
            try dsimp only at hSw
            go_simp
            try with_reducible rfl
          try simp only [Act.put, List.setIfInBounds_toArray, List.set_cons_zero, List.set_cons_succ]
          refine AnyK.takeB (i := 5) (v := ?_) rfl (by kernel_rfl) (by kernel_rfl) (by kernel_rfl) (by kernel_rfl) (fun _ _ _ h => h) (Or.inl ⟨by rfl, ?_⟩) (by exact q0) ?_
          rotate_left
          focus
            intro w9 hSw
            try dsimp only at hSw
            go_simp
            try with_reducible rfl
          try simp only [Act.put, List.setIfInBounds_toArray, List.set_cons_zero, List.set_cons_succ]
          generalize wx.drew = z0 at *
          have H9 := HZ.out.alloc 2 #[.int .i64 0, .int .i64 0, .int .i64 0, .int .i64 0]
          have qs : World.cell? _ ⟨c.wb, 1, none⟩ = some (.pointer (some ⟨c.rb, 0, none⟩)) := (H9.blk 0 (b := c.wb) (t := 31) (c := c.cells) (by rfl)).cell 1
          refine AnyK.one (i := 6) (by kernel_rfl) rfl (fun K9 hK9 => ?_)
          go_simp
          refine cast_w (w' := z0.alloc (.cells #[.int .i64 0, .int .i64 0, .int .i64 0, .int .i64 0] 2)) (by kernel_rfl) ?_
          refine hK9.out _ _ (fun _ => qs) ?_
          clear hK9 K9
          try simp only [Act.put, List.setIfInBounds_toArray, List.set_cons_zero, List.set_cons_succ]
          try dsimp only
          try simp only [show (IntKind.i64.wrap 4).toNat = 4 from rfl]
          refine AnyK.one (i := 7) (by kernel_rfl) rfl (fun K9 hK9 => ?_)
          go_simp
          refine hK9.out _ _ (fun _ => qs) ?_
          clear hK9 K9 qs q0
          try simp only [Act.put, List.setIfInBounds_toArray, List.set_cons_zero, List.set_cons_succ]
          generalize hg : z0.heap.size = g8 at *
          generalize hx : z0.alloc (.cells #[.int .i64 0, .int .i64 0, .int .i64 0, .int .i64 0] 2) = x8 at *
          refine AnyK.one (i := 8) (by kernel_rfl) rfl (fun K9 hK9 => ?_)
          go_simp
          refine (Make_h H9 2 rfl (agR 4) (.slice a 4 cp) (.slice (some ⟨g8, 0, none⟩) 4 4) ((H9.row 4 (t := 29) (sz := 1) (n := 4) (v := .slice a 4 cp) (us := intC (tolds 4)) rfl).rdv) (RdV.block (cs := #[.int .i64 0, .int .i64 0, .int .i64 0, .int .i64 0]) (t := 2) (g := g8) (m := 4) (sz := 1) (H9.blk 5 rfl) rfl (by decide)) (by decide) (by decide)).mono ?_
          rintro e y9 ⟨rfl, H8⟩
          have H8 : Heap w y9 ((wdL c (agW 4 st) ++ [rowP 29 1 (.slice a 4 cp) 4 (intC (tolds 4))]) ++ [blkP g8 2 #[.int .i64 0, .int .i64 0, .int .i64 0, .int .i64 0]]) := H8
          have HF := Lib.hid H8.first
          clear H8 H9
          refine hK9.out _ _ (fun hx => absurd (by decide) hx) ?_
          clear hK9 K9
          try simp only [Act.put, List.setIfInBounds_toArray, List.set_cons_zero, List.set_cons_succ]
          refine AnyK.phase (S' := fun _ => True) (ks' := []) (by kernel_rfl) ?_
          refine AnyK.take (i := 9) (v := ?_) rfl (by kernel_rfl) (by kernel_rfl) (by kernel_rfl) (by kernel_rfl) (fun _ _ _ h => h) (Or.inl ⟨by rfl, ?_⟩) (by exact trivial) ?_
          rotate_left
          focus
            intro w9 hSw
            try dsimp only at hSw
            go_simp
            try with_reducible rfl
          try simp only [Act.put, List.setIfInBounds_toArray, List.set_cons_zero, List.set_cons_succ]
          refine AnyK.take (i := 10) (v := ?_) rfl (by kernel_rfl) (by kernel_rfl) (by kernel_rfl) (by kernel_rfl) (fun _ _ _ h => h) (Or.inl ⟨by rfl, ?_⟩) (by exact trivial) ?_
          rotate_left
          focus
            intro w9 hSw
            try dsimp only at hSw
            go_simp
            try with_reducible rfl
          try simp only [Act.put, List.setIfInBounds_toArray, List.set_cons_zero, List.set_cons_succ]
          refine AnyK.take (i := 11) (v := ?_) rfl (by kernel_rfl) (by kernel_rfl) (by kernel_rfl) (by kernel_rfl) (fun _ _ _ h => h) (Or.inl ⟨by rfl, ?_⟩) (by exact trivial) ?_
          rotate_left
          focus
            intro w9 hSw
            try dsimp only at hSw
            go_simp
            try with_reducible rfl
          try simp only [Act.put, List.setIfInBounds_toArray, List.set_cons_zero, List.set_cons_succ]
          refine AnyK.take (i := 12) (v := ?_) rfl (by kernel_rfl) (by kernel_rfl) (by kernel_rfl) (by kernel_rfl) (fun _ _ _ h => h) (Or.inl ⟨by rfl, ?_⟩) (by exact trivial) ?_
          rotate_left
          focus
            intro w9 hSw
            try dsimp only at hSw
            go_simp
            try with_reducible rfl
          try simp only [Act.put, List.setIfInBounds_toArray, List.set_cons_zero, List.set_cons_succ]
          refine AnyK.take (i := 13) (v := ?_) rfl (by kernel_rfl) (by kernel_rfl) (by kernel_rfl) (by kernel_rfl) (fun _ _ _ h => h) (Or.inl ⟨by rfl, ?_⟩) (by exact trivial) ?_
          rotate_left
          focus
            intro w9 hSw
            try dsimp only at hSw
            go_simp
            try with_reducible rfl
          try simp only [Act.put, List.setIfInBounds_toArray, List.set_cons_zero, List.set_cons_succ]
          refine AnyK.done (by kernel_rfl) ?_ _
          refine NoPanic.normal ?_
          go_wp2_with fail
          go_meet
          exact ⟨rfl, rfl, HF⟩
      case rest =>
        obtain ⟨rfl, rfl, HH⟩ := hcut
        rename World => wq
        clear v0 v1 v2 v3 v4 v5 v1d HW
        go_wp2_with fail
        try simp only [hrd]
        clear hrd
        obtain ⟨l1, l2, s1, e1, e2, n1, n2, wy, sa, sw, ss⟩ := again_bad hkb HBD.out
        have HE := Lib.hid (And.intro e1 (And.intro e2 (And.intro n1 n2)))
        have HY := Lib.hid (And.intro wy (And.intro sa (And.intro sw ss)))
        have HQ : Hid (∃ s, (s = agW k st ∨ s = s1) ∧ WdOk (10 + 101 * 0) s ∧ Heap w wq (wdL c s ++ [rowP 29 1 (.slice a k cp) k (intC (tolds k))])) := Lib.hid ⟨_, .inl rfl, agW_ok (by omega), HH.out⟩
        clear e1 e2 n1 n2 wy sa sw ss HH
        go_loopw [60] (fun i wr => ∃ j : Nat, i = .int .i64 (j : Nat) ∧ j ≤ rounds ∧ Hid (∃ s, (s = agW k st ∨ s = s1) ∧ WdOk (10 + 101 * j) s ∧ Heap w wr (wdL c s ++ [rowP 29 1 (.slice a k cp) k (intC (tolds k))]))) (fun i _ => rounds - (intOf i).toNat)
        case atStart => exact ⟨0, rfl, Nat.zero_le _, HQ⟩
        case round =>
          clear HQ
          obtain ⟨j, rfl, hj, HQ⟩ := hrel
          by_cases hlt : j < rounds
          · obtain ⟨s, hs, ok, H0⟩ := HQ.out
            obtain ⟨l, hl, hs2⟩ : ∃ l, l.length ≤ 100 ∧ solH 1 (agR k) s = (l, false, s1) := by
              obtain ⟨e1, e2, n1, n2⟩ := HE.out
              rcases hs with rfl | rfl
              · exact ⟨l1, n1, e1⟩
              · exact ⟨l2, n2, e2⟩
            have hlk : lookRt 1 s.rt = agR k := by
              rcases hs with rfl | rfl
              · exact agW_look k st
              · exact HY.out.2.2.2.2
            have CH := helper_alone (me := 0) H0 1 (agR k) hlk (by show (0 : Int) ≤ 1; omega) (by simp [agR, tolds_len]) ok (by omega) _ hs2 (by dsimp only; omega)
            have CH := Lib.hid CH
            have HL := Lib.hid (show 10 + 101 * j + max l.length 1 ≤ 10 + 101 * (j + 1) by omega)
            clear H0 ok hlk hs hs2 HQ hl
            go_wp2_with fail
            refine CH.out.mono ?_
            rintro e w4 ⟨tb, rfl, CA⟩
            clear CH
            go_wp2_with fail
            refine CA.out.mono ?_
            rintro e w5 ⟨T', a1, cp1, a2, cp2, rfl, H5, hd, ho, ok5⟩
            have H5 : Heap w w5 (wdL c s1 ++ [rowP 29 1 (.slice a k cp) k (intC (tolds k)), thP tb T', rowP 2 1 (.slice a1 1 cp1) 1 (intC [bit false]), rowP 2 1 (.slice a2 1 cp2) 1 (intC [bit false])]) := H5
            have CY := Lib.hid (yes_h H5 5 6 rfl false rfl hd ho)
            have HO := Lib.hid (ok5.up HL.out)
            clear CA H5 hd ho ok5
            go_wp2_with fail
            refine CY.out.mono ?_
            rintro e w6 ⟨rfl, a3, cp3, H6⟩
            have H6 : Heap w w6 ((wdL c s1 ++ [rowP 29 1 (.slice a k cp) k (intC (tolds k))]) ++ [thP tb T', rowP 2 1 (.slice a1 1 cp1) 1 (intC [bit false]), rowP 2 1 (.slice a2 1 cp2) 1 (intC [bit false]), rowP 2 1 (.slice a3 1 cp3) 1 (intC [bit false])]) := H6
            have H6 := H6.first
            obtain ⟨v0, v1, v2, v3, v4, v5⟩ := wdL_cells H6
            obtain ⟨g9, ee, hcc, hat⟩ := (H6.row 4 (t := 29) (sz := 1) (n := k) (v := .slice a k cp) (us := intC (tolds k)) rfl).rdv.at (by omega)
            have ee : a = some g9 := by simpa using ee
            subst ee
            have y1 : w6.cell? g9 = some (.int .i64 (told 0)) := hat 0 _ (tolds_get (by omega))
            have HH := Lib.hid H6
            have okA := Lib.hid (HO.out.ar.ok (by omega))
            clear CY H6 hat
            go_upto_region 15 with fail
            go_quiet ((go_at_call 47; exact Calls.quiet_of_same ((Way_q (HH.out.drewN _) 1 rfl okA.out (told 0) 0 HY.out.1).mono (R' := fun e w' => e = .returned (.int .i64 200) ∧ w' = _) (fun e w' h => ⟨by have := h.1; rw [HY.out.2.1] at this; exact this, h.2⟩))))
            go_wp2_with fail
            have CST := State_h (HH.out.drewN nq) 2 rfl 1
            rw [HY.out.2.2.1] at CST
            have CST := Lib.hid CST
            refine CST.out.mono ?_
            rintro e w' ⟨rfl, hw⟩
            have hw := hw.symm
            subst hw
            clear CST
            go_wp2_with fail
            exact ⟨⟨j + 1, by go_num, by omega, Lib.hid ⟨s1, .inr rfl, HO.out, HH.out.drewN nq⟩⟩, by simp [intOf]; omega⟩
          · go_wp2_with fail
            go_ret
            obtain ⟨s, hs, ok, H0⟩ := HQ.out
            exact ⟨rfl, H0.below⟩
  · have hle : k ≤ st := by omega
    have HBD := Lib.hid hle
    have HW : Hid (Heap w w2 (wdL c { ndW 1 k with ar := nkS (agL k st) } ++ [rowP 29 1 (.slice a k cp) k (intC (tolds k))])) := by rw [agL_no hle]; exact HH
    have v1d := (wdL_cells HW.out.drew).2.1
    clear HH
    go_upto_region 8 with fail
    go_cut [11, 12] (fun s11 s12 wx => s11 = .int .i64 1 ∧ s12 = .bool true ∧ Hid (Heap w wx (wdL c (agW k st) ++ [rowP 29 1 (.slice a k cp) k (intC (tolds k))])))
    case first =>
      have q0 : w2.drew.cell? ⟨c.wb, 1, none⟩ = some (.pointer (some ⟨c.rb, 0, none⟩)) := v1d
      have HZ := Lib.hid HW.out.drew
      clear v0 v1 v2 v3 v4 v5 v1d HW
      rcases (by omega : k = 1 ∨ k = 2 ∨ k = 3 ∨ k = 4) with hk9 | hk9 | hk9 | hk9
      · subst hk9
        refine wp_region_noPanic ?_
        refine AnyK.start (ks := [8, 9, 10, 11, 12, 13]) (S := fun w' => w'.cell? ⟨c.wb, 1, none⟩ = some (.pointer (some ⟨c.rb, 0, none⟩))) (by kernel_rfl) (by exact q0) (fun _ => ?_)
        refine AnyK.takeB (i := 0) (v := ?_) rfl (by kernel_rfl) (by kernel_rfl) (by kernel_rfl) (by kernel_rfl) (fun _ _ _ h => h) (Or.inl ⟨by rfl, ?_⟩) (by exact q0) ?_
        rotate_left
        focus
          intro w9 hSw
          try dsimp only at hSw
          go_simp
          try with_reducible rfl
        try simp only [Act.put, List.setIfInBounds_toArray, List.set_cons_zero, List.set_cons_succ]
        refine AnyK.takeB (i := 1) (v := ?_) rfl (by kernel_rfl) (by kernel_rfl) (by kernel_rfl) (by kernel_rfl) (fun _ _ _ h => h) (Or.inl ⟨by rfl, ?_⟩) (by exact q0) ?_
        rotate_left
        focus
          intro w9 hSw
          try dsimp only at hSw
          go_simp
          try with_reducible rfl
        try simp only [Act.put, List.setIfInBounds_toArray, List.set_cons_zero, List.set_cons_succ]
        refine AnyK.takeB (i := 2) (v := ?_) rfl (by kernel_rfl) (by kernel_rfl) (by kernel_rfl) (by kernel_rfl) (fun _ _ _ h => h) (Or.inl ⟨by rfl, ?_⟩) (by exact q0) ?_
        rotate_left
        focus
          intro w9 hSw
          try dsimp only at hSw
          go_simp
          try with_reducible rfl
        try simp only [Act.put, List.setIfInBounds_toArray, List.set_cons_zero, List.set_cons_succ]
        refine AnyK.takeB (i := 3) (v := ?_) rfl (by kernel_rfl) (by kernel_rfl) (by kernel_rfl) (by kernel_rfl) (fun _ _ _ h => h) (Or.inl ⟨by rfl, ?_⟩) (by exact q0) ?_
        rotate_left
        focus
          intro w9 hSw
          try dsimp only at hSw
          go_simp
          try with_reducible rfl
        try simp only [Act.put, List.setIfInBounds_toArray, List.set_cons_zero, List.set_cons_succ]
        refine AnyK.takeB (i := 4) (v := ?_) rfl (by kernel_rfl) (by kernel_rfl) (by kernel_rfl) (by kernel_rfl) (fun _ _ _ h => h) (Or.inl ⟨by rfl, ?_⟩) (by exact q0) ?_
        rotate_left
        focus
          intro w9 hSw
          try dsimp only at hSw
          go_simp
          try with_reducible rfl
        try simp only [Act.put, List.setIfInBounds_toArray, List.set_cons_zero, List.set_cons_succ]
        refine AnyK.takeB (i := 5) (v := ?_) rfl (by kernel_rfl) (by kernel_rfl) (by kernel_rfl) (by kernel_rfl) (fun _ _ _ h => h) (Or.inl ⟨by rfl, ?_⟩) (by exact q0) ?_
        rotate_left
        focus
          intro w9 hSw
          try dsimp only at hSw
          go_simp
          try with_reducible rfl
        try simp only [Act.put, List.setIfInBounds_toArray, List.set_cons_zero, List.set_cons_succ]
        generalize w2.drew = z0 at *
        have H9 := HZ.out.alloc 2 #[.int .i64 0]
        have qs : World.cell? _ ⟨c.wb, 1, none⟩ = some (.pointer (some ⟨c.rb, 0, none⟩)) := (H9.blk 0 (b := c.wb) (t := 31) (c := c.cells) (by rfl)).cell 1
        refine AnyK.one (i := 6) (by kernel_rfl) rfl (fun K9 hK9 => ?_)
        go_simp
        refine cast_w (w' := z0.alloc (.cells #[.int .i64 0] 2)) (by kernel_rfl) ?_
        refine hK9.out _ _ (fun _ => qs) ?_
        clear hK9 K9
        try simp only [Act.put, List.setIfInBounds_toArray, List.set_cons_zero, List.set_cons_succ]
        try dsimp only
        try simp only [show (IntKind.i64.wrap 1).toNat = 1 from rfl]
        refine AnyK.one (i := 7) (by kernel_rfl) rfl (fun K9 hK9 => ?_)
        go_simp
        refine hK9.out _ _ (fun _ => qs) ?_
        clear hK9 K9 qs q0
        try simp only [Act.put, List.setIfInBounds_toArray, List.set_cons_zero, List.set_cons_succ]
        generalize hg : z0.heap.size = g8 at *
        generalize hx : z0.alloc (.cells #[.int .i64 0] 2) = x8 at *
        refine AnyK.one (i := 8) (by kernel_rfl) rfl (fun K9 hK9 => ?_)
        go_simp
        refine (Make_h H9 2 rfl (agR 1) (.slice a 1 cp) (.slice (some ⟨g8, 0, none⟩) 1 1) ((H9.row 4 (t := 29) (sz := 1) (n := 1) (v := .slice a 1 cp) (us := intC (tolds 1)) rfl).rdv) (RdV.block (cs := #[.int .i64 0]) (t := 2) (g := g8) (m := 1) (sz := 1) (H9.blk 5 rfl) rfl (by decide)) (by decide) (by decide)).mono ?_
        rintro e y9 ⟨rfl, H8⟩
        have H8 : Heap w y9 ((wdL c (agW 1 st) ++ [rowP 29 1 (.slice a 1 cp) 1 (intC (tolds 1))]) ++ [blkP g8 2 #[.int .i64 0]]) := H8
        have HF := Lib.hid H8.first
        clear H8 H9
        refine hK9.out _ _ (fun hx => absurd (by decide) hx) ?_
        clear hK9 K9
        try simp only [Act.put, List.setIfInBounds_toArray, List.set_cons_zero, List.set_cons_succ]
        refine AnyK.phase (S' := fun _ => True) (ks' := []) (by kernel_rfl) ?_
        refine AnyK.take (i := 9) (v := ?_) rfl (by kernel_rfl) (by kernel_rfl) (by kernel_rfl) (by kernel_rfl) (fun _ _ _ h => h) (Or.inl ⟨by rfl, ?_⟩) (by exact trivial) ?_
        rotate_left
        focus
          intro w9 hSw
          try dsimp only at hSw
          go_simp
          try with_reducible rfl
        try simp only [Act.put, List.setIfInBounds_toArray, List.set_cons_zero, List.set_cons_succ]
        refine AnyK.take (i := 10) (v := ?_) rfl (by kernel_rfl) (by kernel_rfl) (by kernel_rfl) (by kernel_rfl) (fun _ _ _ h => h) (Or.inl ⟨by rfl, ?_⟩) (by exact trivial) ?_
        rotate_left
        focus
          intro w9 hSw
          try dsimp only at hSw
          go_simp
          try with_reducible rfl
        try simp only [Act.put, List.setIfInBounds_toArray, List.set_cons_zero, List.set_cons_succ]
        refine AnyK.take (i := 11) (v := ?_) rfl (by kernel_rfl) (by kernel_rfl) (by kernel_rfl) (by kernel_rfl) (fun _ _ _ h => h) (Or.inl ⟨by rfl, ?_⟩) (by exact trivial) ?_
        rotate_left
        focus
          intro w9 hSw
          try dsimp only at hSw
          go_simp
          try with_reducible rfl
        try simp only [Act.put, List.setIfInBounds_toArray, List.set_cons_zero, List.set_cons_succ]
        refine AnyK.take (i := 12) (v := ?_) rfl (by kernel_rfl) (by kernel_rfl) (by kernel_rfl) (by kernel_rfl) (fun _ _ _ h => h) (Or.inl ⟨by rfl, ?_⟩) (by exact trivial) ?_
        rotate_left
        focus
          intro w9 hSw
          try dsimp only at hSw
          go_simp
          try with_reducible rfl
        try simp only [Act.put, List.setIfInBounds_toArray, List.set_cons_zero, List.set_cons_succ]
        refine AnyK.take (i := 13) (v := ?_) rfl (by kernel_rfl) (by kernel_rfl) (by kernel_rfl) (by kernel_rfl) (fun _ _ _ h => h) (Or.inl ⟨by rfl, ?_⟩) (by exact trivial) ?_
        rotate_left
        focus
          intro w9 hSw
          try dsimp only at hSw
          go_simp
          try with_reducible rfl
        try simp only [Act.put, List.setIfInBounds_toArray, List.set_cons_zero, List.set_cons_succ]
        refine AnyK.done (by kernel_rfl) ?_ _
        refine NoPanic.normal ?_
        go_wp2_with fail
        go_meet
        exact ⟨rfl, rfl, HF⟩
      · subst hk9
        refine wp_region_noPanic ?_
        refine AnyK.start (ks := [8, 9, 10, 11, 12, 13]) (S := fun w' => w'.cell? ⟨c.wb, 1, none⟩ = some (.pointer (some ⟨c.rb, 0, none⟩))) (by kernel_rfl) (by exact q0) (fun _ => ?_)
        refine AnyK.takeB (i := 0) (v := ?_) rfl (by kernel_rfl) (by kernel_rfl) (by kernel_rfl) (by kernel_rfl) (fun _ _ _ h => h) (Or.inl ⟨by rfl, ?_⟩) (by exact q0) ?_
        rotate_left
        focus
          intro w9 hSw
          try dsimp only at hSw
          go_simp
          try with_reducible rfl
        try simp only [Act.put, List.setIfInBounds_toArray, List.set_cons_zero, List.set_cons_succ]
        refine AnyK.takeB (i := 1) (v := ?_) rfl (by kernel_rfl) (by kernel_rfl) (by kernel_rfl) (by kernel_rfl) (fun _ _ _ h => h) (Or.inl ⟨by rfl, ?_⟩) (by exact q0) ?_
        rotate_left
        focus
          intro w9 hSw
          try dsimp only at hSw
          go_simp
          try with_reducible rfl
        try simp only [Act.put, List.setIfInBounds_toArray, List.set_cons_zero, List.set_cons_succ]
        refine AnyK.takeB (i := 2) (v := ?_) rfl (by kernel_rfl) (by kernel_rfl) (by kernel_rfl) (by kernel_rfl) (fun _ _ _ h => h) (Or.inl ⟨by rfl, ?_⟩) (by exact q0) ?_
        rotate_left
        focus
          intro w9 hSw
          try dsimp only at hSw
          go_simp
          try with_reducible rfl
        try simp only [Act.put, List.setIfInBounds_toArray, List.set_cons_zero, List.set_cons_succ]
        refine AnyK.takeB (i := 3) (v := ?_) rfl (by kernel_rfl) (by kernel_rfl) (by kernel_rfl) (by kernel_rfl) (fun _ _ _ h => h) (Or.inl ⟨by rfl, ?_⟩) (by exact q0) ?_
        rotate_left
        focus
          intro w9 hSw
          try dsimp only at hSw
          go_simp
          try with_reducible rfl
        try simp only [Act.put, List.setIfInBounds_toArray, List.set_cons_zero, List.set_cons_succ]
        refine AnyK.takeB (i := 4) (v := ?_) rfl (by kernel_rfl) (by kernel_rfl) (by kernel_rfl) (by kernel_rfl) (fun _ _ _ h => h) (Or.inl ⟨by rfl, ?_⟩) (by exact q0) ?_
        rotate_left
        focus
          intro w9 hSw
          try dsimp only at hSw
          go_simp
          try with_reducible rfl
        try simp only [Act.put, List.setIfInBounds_toArray, List.set_cons_zero, List.set_cons_succ]
        refine AnyK.takeB (i := 5) (v := ?_) rfl (by kernel_rfl) (by kernel_rfl) (by kernel_rfl) (by kernel_rfl) (fun _ _ _ h => h) (Or.inl ⟨by rfl, ?_⟩) (by exact q0) ?_
        rotate_left
        focus
          intro w9 hSw
          try dsimp only at hSw
          go_simp
          try with_reducible rfl
        try simp only [Act.put, List.setIfInBounds_toArray, List.set_cons_zero, List.set_cons_succ]
        generalize w2.drew = z0 at *
        have H9 := HZ.out.alloc 2 #[.int .i64 0, .int .i64 0]
        have qs : World.cell? _ ⟨c.wb, 1, none⟩ = some (.pointer (some ⟨c.rb, 0, none⟩)) := (H9.blk 0 (b := c.wb) (t := 31) (c := c.cells) (by rfl)).cell 1
        refine AnyK.one (i := 6) (by kernel_rfl) rfl (fun K9 hK9 => ?_)
        go_simp
        refine cast_w (w' := z0.alloc (.cells #[.int .i64 0, .int .i64 0] 2)) (by kernel_rfl) ?_
        refine hK9.out _ _ (fun _ => qs) ?_
        clear hK9 K9
        try simp only [Act.put, List.setIfInBounds_toArray, List.set_cons_zero, List.set_cons_succ]
        try dsimp only
        try simp only [show (IntKind.i64.wrap 2).toNat = 2 from rfl]
        refine AnyK.one (i := 7) (by kernel_rfl) rfl (fun K9 hK9 => ?_)
        go_simp
        refine hK9.out _ _ (fun _ => qs) ?_
        clear hK9 K9 qs q0
        try simp only [Act.put, List.setIfInBounds_toArray, List.set_cons_zero, List.set_cons_succ]
        generalize hg : z0.heap.size = g8 at *
        generalize hx : z0.alloc (.cells #[.int .i64 0, .int .i64 0] 2) = x8 at *
        refine AnyK.one (i := 8) (by kernel_rfl) rfl (fun K9 hK9 => ?_)
        go_simp
        refine (Make_h H9 2 rfl (agR 2) (.slice a 2 cp) (.slice (some ⟨g8, 0, none⟩) 2 2) ((H9.row 4 (t := 29) (sz := 1) (n := 2) (v := .slice a 2 cp) (us := intC (tolds 2)) rfl).rdv) (RdV.block (cs := #[.int .i64 0, .int .i64 0]) (t := 2) (g := g8) (m := 2) (sz := 1) (H9.blk 5 rfl) rfl (by decide)) (by decide) (by decide)).mono ?_
        rintro e y9 ⟨rfl, H8⟩
        have H8 : Heap w y9 ((wdL c (agW 2 st) ++ [rowP 29 1 (.slice a 2 cp) 2 (intC (tolds 2))]) ++ [blkP g8 2 #[.int .i64 0, .int .i64 0]]) := H8
        have HF := Lib.hid H8.first
        clear H8 H9
        refine hK9.out _ _ (fun hx => absurd (by decide) hx) ?_
        clear hK9 K9
        try simp only [Act.put, List.setIfInBounds_toArray, List.set_cons_zero, List.set_cons_succ]
        refine AnyK.phase (S' := fun _ => True) (ks' := []) (by kernel_rfl) ?_
        refine AnyK.take (i := 9) (v := ?_) rfl (by kernel_rfl) (by kernel_rfl) (by kernel_rfl) (by kernel_rfl) (fun _ _ _ h => h) (Or.inl ⟨by rfl, ?_⟩) (by exact trivial) ?_
        rotate_left
        focus
          intro w9 hSw
          try dsimp only at hSw
          go_simp
          try with_reducible rfl
        try simp only [Act.put, List.setIfInBounds_toArray, List.set_cons_zero, List.set_cons_succ]
        refine AnyK.take (i := 10) (v := ?_) rfl (by kernel_rfl) (by kernel_rfl) (by kernel_rfl) (by kernel_rfl) (fun _ _ _ h => h) (Or.inl ⟨by rfl, ?_⟩) (by exact trivial) ?_
        rotate_left
        focus
          intro w9 hSw
          try dsimp only at hSw
          go_simp
          try with_reducible rfl
        try simp only [Act.put, List.setIfInBounds_toArray, List.set_cons_zero, List.set_cons_succ]
        refine AnyK.take (i := 11) (v := ?_) rfl (by kernel_rfl) (by kernel_rfl) (by kernel_rfl) (by kernel_rfl) (fun _ _ _ h => h) (Or.inl ⟨by rfl, ?_⟩) (by exact trivial) ?_
        rotate_left
        focus
          intro w9 hSw
          try dsimp only at hSw
          go_simp
          try with_reducible rfl
        try simp only [Act.put, List.setIfInBounds_toArray, List.set_cons_zero, List.set_cons_succ]
        refine AnyK.take (i := 12) (v := ?_) rfl (by kernel_rfl) (by kernel_rfl) (by kernel_rfl) (by kernel_rfl) (fun _ _ _ h => h) (Or.inl ⟨by rfl, ?_⟩) (by exact trivial) ?_
        rotate_left
        focus
          intro w9 hSw
          try dsimp only at hSw
          go_simp
          try with_reducible rfl
        try simp only [Act.put, List.setIfInBounds_toArray, List.set_cons_zero, List.set_cons_succ]
        refine AnyK.take (i := 13) (v := ?_) rfl (by kernel_rfl) (by kernel_rfl) (by kernel_rfl) (by kernel_rfl) (fun _ _ _ h => h) (Or.inl ⟨by rfl, ?_⟩) (by exact trivial) ?_
        rotate_left
        focus
          intro w9 hSw
          try dsimp only at hSw
          go_simp
          try with_reducible rfl
        try simp only [Act.put, List.setIfInBounds_toArray, List.set_cons_zero, List.set_cons_succ]
        refine AnyK.done (by kernel_rfl) ?_ _
        refine NoPanic.normal ?_
        go_wp2_with fail
        go_meet
        exact ⟨rfl, rfl, HF⟩
      · subst hk9
        refine wp_region_noPanic ?_
        refine AnyK.start (ks := [8, 9, 10, 11, 12, 13]) (S := fun w' => w'.cell? ⟨c.wb, 1, none⟩ = some (.pointer (some ⟨c.rb, 0, none⟩))) (by kernel_rfl) (by exact q0) (fun _ => ?_)
        refine AnyK.takeB (i := 0) (v := ?_) rfl (by kernel_rfl) (by kernel_rfl) (by kernel_rfl) (by kernel_rfl) (fun _ _ _ h => h) (Or.inl ⟨by rfl, ?_⟩) (by exact q0) ?_
        rotate_left
        focus
          intro w9 hSw
          try dsimp only at hSw
          go_simp
          try with_reducible rfl
        try simp only [Act.put, List.setIfInBounds_toArray, List.set_cons_zero, List.set_cons_succ]
        refine AnyK.takeB (i := 1) (v := ?_) rfl (by kernel_rfl) (by kernel_rfl) (by kernel_rfl) (by kernel_rfl) (fun _ _ _ h => h) (Or.inl ⟨by rfl, ?_⟩) (by exact q0) ?_
        rotate_left
        focus
          intro w9 hSw
          try dsimp only at hSw
          go_simp
          try with_reducible rfl
        try simp only [Act.put, List.setIfInBounds_toArray, List.set_cons_zero, List.set_cons_succ]
        refine AnyK.takeB (i := 2) (v := ?_) rfl (by kernel_rfl) (by kernel_rfl) (by kernel_rfl) (by kernel_rfl) (fun _ _ _ h => h) (Or.inl ⟨by rfl, ?_⟩) (by exact q0) ?_
        rotate_left
        focus
          intro w9 hSw
          try dsimp only at hSw
          go_simp
          try with_reducible rfl
        try simp only [Act.put, List.setIfInBounds_toArray, List.set_cons_zero, List.set_cons_succ]
        refine AnyK.takeB (i := 3) (v := ?_) rfl (by kernel_rfl) (by kernel_rfl) (by kernel_rfl) (by kernel_rfl) (fun _ _ _ h => h) (Or.inl ⟨by rfl, ?_⟩) (by exact q0) ?_
        rotate_left
        focus
          intro w9 hSw
          try dsimp only at hSw
          go_simp
          try with_reducible rfl
        try simp only [Act.put, List.setIfInBounds_toArray, List.set_cons_zero, List.set_cons_succ]
        refine AnyK.takeB (i := 4) (v := ?_) rfl (by kernel_rfl) (by kernel_rfl) (by kernel_rfl) (by kernel_rfl) (fun _ _ _ h => h) (Or.inl ⟨by rfl, ?_⟩) (by exact q0) ?_
        rotate_left
        focus
          intro w9 hSw
          try dsimp only at hSw
          go_simp
          try with_reducible rfl
        try simp only [Act.put, List.setIfInBounds_toArray, List.set_cons_zero, List.set_cons_succ]
        refine AnyK.takeB (i := 5) (v := ?_) rfl (by kernel_rfl) (by kernel_rfl) (by kernel_rfl) (by kernel_rfl) (fun _ _ _ h => h) (Or.inl ⟨by rfl, ?_⟩) (by exact q0) ?_
        rotate_left
        focus
          intro w9 hSw
          try dsimp only at hSw
          go_simp
          try with_reducible rfl
        try simp only [Act.put, List.setIfInBounds_toArray, List.set_cons_zero, List.set_cons_succ]
        generalize w2.drew = z0 at *
        have H9 := HZ.out.alloc 2 #[.int .i64 0, .int .i64 0, .int .i64 0]
        have qs : World.cell? _ ⟨c.wb, 1, none⟩ = some (.pointer (some ⟨c.rb, 0, none⟩)) := (H9.blk 0 (b := c.wb) (t := 31) (c := c.cells) (by rfl)).cell 1
        refine AnyK.one (i := 6) (by kernel_rfl) rfl (fun K9 hK9 => ?_)
        go_simp
        refine cast_w (w' := z0.alloc (.cells #[.int .i64 0, .int .i64 0, .int .i64 0] 2)) (by kernel_rfl) ?_
        refine hK9.out _ _ (fun _ => qs) ?_
        clear hK9 K9
        try simp only [Act.put, List.setIfInBounds_toArray, List.set_cons_zero, List.set_cons_succ]
        try dsimp only
        try simp only [show (IntKind.i64.wrap 3).toNat = 3 from rfl]
        refine AnyK.one (i := 7) (by kernel_rfl) rfl (fun K9 hK9 => ?_)
        go_simp
        refine hK9.out _ _ (fun _ => qs) ?_
        clear hK9 K9 qs q0
        try simp only [Act.put, List.setIfInBounds_toArray, List.set_cons_zero, List.set_cons_succ]
        generalize hg : z0.heap.size = g8 at *
        generalize hx : z0.alloc (.cells #[.int .i64 0, .int .i64 0, .int .i64 0] 2) = x8 at *
        refine AnyK.one (i := 8) (by kernel_rfl) rfl (fun K9 hK9 => ?_)
        go_simp
        refine (Make_h H9 2 rfl (agR 3) (.slice a 3 cp) (.slice (some ⟨g8, 0, none⟩) 3 3) ((H9.row 4 (t := 29) (sz := 1) (n := 3) (v := .slice a 3 cp) (us := intC (tolds 3)) rfl).rdv) (RdV.block (cs := #[.int .i64 0, .int .i64 0, .int .i64 0]) (t := 2) (g := g8) (m := 3) (sz := 1) (H9.blk 5 rfl) rfl (by decide)) (by decide) (by decide)).mono ?_
        rintro e y9 ⟨rfl, H8⟩
        have H8 : Heap w y9 ((wdL c (agW 3 st) ++ [rowP 29 1 (.slice a 3 cp) 3 (intC (tolds 3))]) ++ [blkP g8 2 #[.int .i64 0, .int .i64 0, .int .i64 0]]) := H8
        have HF := Lib.hid H8.first
        clear H8 H9
        refine hK9.out _ _ (fun hx => absurd (by decide) hx) ?_
        clear hK9 K9
        try simp only [Act.put, List.setIfInBounds_toArray, List.set_cons_zero, List.set_cons_succ]
        refine AnyK.phase (S' := fun _ => True) (ks' := []) (by kernel_rfl) ?_
        refine AnyK.take (i := 9) (v := ?_) rfl (by kernel_rfl) (by kernel_rfl) (by kernel_rfl) (by kernel_rfl) (fun _ _ _ h => h) (Or.inl ⟨by rfl, ?_⟩) (by exact trivial) ?_
        rotate_left
        focus
          intro w9 hSw
          try dsimp only at hSw
          go_simp
          try with_reducible rfl
        try simp only [Act.put, List.setIfInBounds_toArray, List.set_cons_zero, List.set_cons_succ]
        refine AnyK.take (i := 10) (v := ?_) rfl (by kernel_rfl) (by kernel_rfl) (by kernel_rfl) (by kernel_rfl) (fun _ _ _ h => h) (Or.inl ⟨by rfl, ?_⟩) (by exact trivial) ?_
        rotate_left
        focus
          intro w9 hSw
          try dsimp only at hSw
          go_simp
          try with_reducible rfl
        try simp only [Act.put, List.setIfInBounds_toArray, List.set_cons_zero, List.set_cons_succ]
        refine AnyK.take (i := 11) (v := ?_) rfl (by kernel_rfl) (by kernel_rfl) (by kernel_rfl) (by kernel_rfl) (fun _ _ _ h => h) (Or.inl ⟨by rfl, ?_⟩) (by exact trivial) ?_
        rotate_left
        focus
          intro w9 hSw
          try dsimp only at hSw
          go_simp
          try with_reducible rfl
        try simp only [Act.put, List.setIfInBounds_toArray, List.set_cons_zero, List.set_cons_succ]
        refine AnyK.take (i := 12) (v := ?_) rfl (by kernel_rfl) (by kernel_rfl) (by kernel_rfl) (by kernel_rfl) (fun _ _ _ h => h) (Or.inl ⟨by rfl, ?_⟩) (by exact trivial) ?_
        rotate_left
        focus
          intro w9 hSw
          try dsimp only at hSw
          go_simp
          try with_reducible rfl
        try simp only [Act.put, List.setIfInBounds_toArray, List.set_cons_zero, List.set_cons_succ]
        refine AnyK.take (i := 13) (v := ?_) rfl (by kernel_rfl) (by kernel_rfl) (by kernel_rfl) (by kernel_rfl) (fun _ _ _ h => h) (Or.inl ⟨by rfl, ?_⟩) (by exact trivial) ?_
        rotate_left
        focus
          intro w9 hSw
          try dsimp only at hSw
          go_simp
          try with_reducible rfl
        try simp only [Act.put, List.setIfInBounds_toArray, List.set_cons_zero, List.set_cons_succ]
        refine AnyK.done (by kernel_rfl) ?_ _
        refine NoPanic.normal ?_
        go_wp2_with fail
        go_meet
        exact ⟨rfl, rfl, HF⟩
      · subst hk9
        refine wp_region_noPanic ?_
        refine AnyK.start (ks := [8, 9, 10, 11, 12, 13]) (S := fun w' => w'.cell? ⟨c.wb, 1, none⟩ = some (.pointer (some ⟨c.rb, 0, none⟩))) (by kernel_rfl) (by exact q0) (fun _ => ?_)
        refine AnyK.takeB (i := 0) (v := ?_) rfl (by kernel_rfl) (by kernel_rfl) (by kernel_rfl) (by kernel_rfl) (fun _ _ _ h => h) (Or.inl ⟨by rfl, ?_⟩) (by exact q0) ?_
        rotate_left
        focus
          intro w9 hSw
          try dsimp only at hSw
          go_simp
          try with_reducible rfl
        try simp only [Act.put, List.setIfInBounds_toArray, List.set_cons_zero, List.set_cons_succ]
        refine AnyK.takeB (i := 1) (v := ?_) rfl (by kernel_rfl) (by kernel_rfl) (by kernel_rfl) (by kernel_rfl) (fun _ _ _ h => h) (Or.inl ⟨by rfl, ?_⟩) (by exact q0) ?_
        rotate_left
        focus
          intro w9 hSw
          try dsimp only at hSw
          go_simp
          try with_reducible rfl
        try simp only [Act.put, List.setIfInBounds_toArray, List.set_cons_zero, List.set_cons_succ]
        refine AnyK.takeB (i := 2) (v := ?_) rfl (by kernel_rfl) (by kernel_rfl) (by kernel_rfl) (by kernel_rfl) (fun _ _ _ h => h) (Or.inl ⟨by rfl, ?_⟩) (by exact q0) ?_
        rotate_left
        focus
          intro w9 hSw
          try dsimp only at hSw
          go_simp
          try with_reducible rfl
        try simp only [Act.put, List.setIfInBounds_toArray, List.set_cons_zero, List.set_cons_succ]
        refine AnyK.takeB (i := 3) (v := ?_) rfl (by kernel_rfl) (by kernel_rfl) (by kernel_rfl) (by kernel_rfl) (fun _ _ _ h => h) (Or.inl ⟨by rfl, ?_⟩) (by exact q0) ?_
        rotate_left
        focus
          intro w9 hSw
          try dsimp only at hSw
          go_simp
          try with_reducible rfl
        try simp only [Act.put, List.setIfInBounds_toArray, List.set_cons_zero, List.set_cons_succ]
        refine AnyK.takeB (i := 4) (v := ?_) rfl (by kernel_rfl) (by kernel_rfl) (by kernel_rfl) (by kernel_rfl) (fun _ _ _ h => h) (Or.inl ⟨by rfl, ?_⟩) (by exact q0) ?_
        rotate_left
        focus
          intro w9 hSw
          try dsimp only at hSw
          go_simp
          try with_reducible rfl
        try simp only [Act.put, List.setIfInBounds_toArray, List.set_cons_zero, List.set_cons_succ]
        refine AnyK.takeB (i := 5) (v := ?_) rfl (by kernel_rfl) (by kernel_rfl) (by kernel_rfl) (by kernel_rfl) (fun _ _ _ h => h) (Or.inl ⟨by rfl, ?_⟩) (by exact q0) ?_
        rotate_left
        focus
          intro w9 hSw
          try dsimp only at hSw
          go_simp
          try with_reducible rfl
        try simp only [Act.put, List.setIfInBounds_toArray, List.set_cons_zero, List.set_cons_succ]
        generalize w2.drew = z0 at *
        have H9 := HZ.out.alloc 2 #[.int .i64 0, .int .i64 0, .int .i64 0, .int .i64 0]
        have qs : World.cell? _ ⟨c.wb, 1, none⟩ = some (.pointer (some ⟨c.rb, 0, none⟩)) := (H9.blk 0 (b := c.wb) (t := 31) (c := c.cells) (by rfl)).cell 1
        refine AnyK.one (i := 6) (by kernel_rfl) rfl (fun K9 hK9 => ?_)
        go_simp
        refine cast_w (w' := z0.alloc (.cells #[.int .i64 0, .int .i64 0, .int .i64 0, .int .i64 0] 2)) (by kernel_rfl) ?_
        refine hK9.out _ _ (fun _ => qs) ?_
        clear hK9 K9
        try simp only [Act.put, List.setIfInBounds_toArray, List.set_cons_zero, List.set_cons_succ]
        try dsimp only
        try simp only [show (IntKind.i64.wrap 4).toNat = 4 from rfl]
        refine AnyK.one (i := 7) (by kernel_rfl) rfl (fun K9 hK9 => ?_)
        go_simp
        refine hK9.out _ _ (fun _ => qs) ?_
        clear hK9 K9 qs q0
        try simp only [Act.put, List.setIfInBounds_toArray, List.set_cons_zero, List.set_cons_succ]
        generalize hg : z0.heap.size = g8 at *
        generalize hx : z0.alloc (.cells #[.int .i64 0, .int .i64 0, .int .i64 0, .int .i64 0] 2) = x8 at *
        refine AnyK.one (i := 8) (by kernel_rfl) rfl (fun K9 hK9 => ?_)
        go_simp
        refine (Make_h H9 2 rfl (agR 4) (.slice a 4 cp) (.slice (some ⟨g8, 0, none⟩) 4 4) ((H9.row 4 (t := 29) (sz := 1) (n := 4) (v := .slice a 4 cp) (us := intC (tolds 4)) rfl).rdv) (RdV.block (cs := #[.int .i64 0, .int .i64 0, .int .i64 0, .int .i64 0]) (t := 2) (g := g8) (m := 4) (sz := 1) (H9.blk 5 rfl) rfl (by decide)) (by decide) (by decide)).mono ?_
        rintro e y9 ⟨rfl, H8⟩
        have H8 : Heap w y9 ((wdL c (agW 4 st) ++ [rowP 29 1 (.slice a 4 cp) 4 (intC (tolds 4))]) ++ [blkP g8 2 #[.int .i64 0, .int .i64 0, .int .i64 0, .int .i64 0]]) := H8
        have HF := Lib.hid H8.first
        clear H8 H9
        refine hK9.out _ _ (fun hx => absurd (by decide) hx) ?_
        clear hK9 K9
        try simp only [Act.put, List.setIfInBounds_toArray, List.set_cons_zero, List.set_cons_succ]
        refine AnyK.phase (S' := fun _ => True) (ks' := []) (by kernel_rfl) ?_
        refine AnyK.take (i := 9) (v := ?_) rfl (by kernel_rfl) (by kernel_rfl) (by kernel_rfl) (by kernel_rfl) (fun _ _ _ h => h) (Or.inl ⟨by rfl, ?_⟩) (by exact trivial) ?_
        rotate_left
        focus
          intro w9 hSw
          try dsimp only at hSw
          go_simp
          try with_reducible rfl
        try simp only [Act.put, List.setIfInBounds_toArray, List.set_cons_zero, List.set_cons_succ]
        refine AnyK.take (i := 10) (v := ?_) rfl (by kernel_rfl) (by kernel_rfl) (by kernel_rfl) (by kernel_rfl) (fun _ _ _ h => h) (Or.inl ⟨by rfl, ?_⟩) (by exact trivial) ?_
        rotate_left
        focus
          intro w9 hSw
          try dsimp only at hSw
          go_simp
          try with_reducible rfl
        try simp only [Act.put, List.setIfInBounds_toArray, List.set_cons_zero, List.set_cons_succ]
        refine AnyK.take (i := 11) (v := ?_) rfl (by kernel_rfl) (by kernel_rfl) (by kernel_rfl) (by kernel_rfl) (fun _ _ _ h => h) (Or.inl ⟨by rfl, ?_⟩) (by exact trivial) ?_
        rotate_left
        focus
          intro w9 hSw
          try dsimp only at hSw
          go_simp
          try with_reducible rfl
        try simp only [Act.put, List.setIfInBounds_toArray, List.set_cons_zero, List.set_cons_succ]
        refine AnyK.take (i := 12) (v := ?_) rfl (by kernel_rfl) (by kernel_rfl) (by kernel_rfl) (by kernel_rfl) (fun _ _ _ h => h) (Or.inl ⟨by rfl, ?_⟩) (by exact trivial) ?_
        rotate_left
        focus
          intro w9 hSw
          try dsimp only at hSw
          go_simp
          try with_reducible rfl
        try simp only [Act.put, List.setIfInBounds_toArray, List.set_cons_zero, List.set_cons_succ]
        refine AnyK.take (i := 13) (v := ?_) rfl (by kernel_rfl) (by kernel_rfl) (by kernel_rfl) (by kernel_rfl) (fun _ _ _ h => h) (Or.inl ⟨by rfl, ?_⟩) (by exact trivial) ?_
        rotate_left
        focus
          intro w9 hSw
          try dsimp only at hSw
          go_simp
          try with_reducible rfl
        try simp only [Act.put, List.setIfInBounds_toArray, List.set_cons_zero, List.set_cons_succ]
        refine AnyK.done (by kernel_rfl) ?_ _
        refine NoPanic.normal ?_
        go_wp2_with fail
        go_meet
        exact ⟨rfl, rfl, HF⟩
    case rest =>
      obtain ⟨rfl, rfl, HH⟩ := hcut
      rename World => wq
      clear v0 v1 v2 v3 v4 v5 v1d HW
      go_wp2_with fail
      try simp only [hrd]
      clear hrd
      obtain ⟨l1, l2, s1, e1, e2, n1, n2, wy, sa, sw, ss⟩ := again_ok hkb HBD.out
      have HE := Lib.hid (And.intro e1 (And.intro e2 (And.intro n1 n2)))
      have HY := Lib.hid (And.intro wy (And.intro sa (And.intro sw ss)))
      have HQ : Hid (∃ s, (s = agW k st ∨ s = s1) ∧ WdOk (10 + 101 * 0) s ∧ Heap w wq (wdL c s ++ [rowP 29 1 (.slice a k cp) k (intC (tolds k))])) := Lib.hid ⟨_, .inl rfl, agW_ok (by omega), HH.out⟩
      clear e1 e2 n1 n2 wy sa sw ss HH
      go_loopw [60] (fun i wr => ∃ j : Nat, i = .int .i64 (j : Nat) ∧ j ≤ rounds ∧ Hid (∃ s, (s = agW k st ∨ s = s1) ∧ WdOk (10 + 101 * j) s ∧ Heap w wr (wdL c s ++ [rowP 29 1 (.slice a k cp) k (intC (tolds k))]))) (fun i _ => rounds - (intOf i).toNat)
      case atStart => exact ⟨0, rfl, Nat.zero_le _, HQ⟩
      case round =>
        clear HQ
        obtain ⟨j, rfl, hj, HQ⟩ := hrel
        by_cases hlt : j < rounds
        · obtain ⟨s, hs, ok, H0⟩ := HQ.out
          obtain ⟨l, hl, hs2⟩ : ∃ l, l.length ≤ 100 ∧ solH 1 (agR k) s = (l, true, s1) := by
            obtain ⟨e1, e2, n1, n2⟩ := HE.out
            rcases hs with rfl | rfl
            · exact ⟨l1, n1, e1⟩
            · exact ⟨l2, n2, e2⟩
          have hlk : lookRt 1 s.rt = agR k := by
            rcases hs with rfl | rfl
            · exact agW_look k st
            · exact HY.out.2.2.2.2
          have CH := helper_alone (me := 0) H0 1 (agR k) hlk (by show (0 : Int) ≤ 1; omega) (by simp [agR, tolds_len]) ok (by omega) _ hs2 (by dsimp only; omega)
          have CH := Lib.hid CH
          have HL := Lib.hid (show 10 + 101 * j + max l.length 1 ≤ 10 + 101 * (j + 1) by omega)
          clear H0 ok hlk hs hs2 HQ hl
          go_wp2_with fail
          refine CH.out.mono ?_
          rintro e w4 ⟨tb, rfl, CA⟩
          clear CH
          go_wp2_with fail
          refine CA.out.mono ?_
          rintro e w5 ⟨T', a1, cp1, a2, cp2, rfl, H5, hd, ho, ok5⟩
          have H5 : Heap w w5 (wdL c s1 ++ [rowP 29 1 (.slice a k cp) k (intC (tolds k)), thP tb T', rowP 2 1 (.slice a1 1 cp1) 1 (intC [bit true]), rowP 2 1 (.slice a2 1 cp2) 1 (intC [bit true])]) := H5
          have CY := Lib.hid (yes_h H5 5 6 rfl true rfl hd ho)
          have HO := Lib.hid (ok5.up HL.out)
          clear CA H5 hd ho ok5
          go_wp2_with fail
          refine CY.out.mono ?_
          rintro e w6 ⟨rfl, a3, cp3, H6⟩
          have H6 : Heap w w6 ((wdL c s1 ++ [rowP 29 1 (.slice a k cp) k (intC (tolds k))]) ++ [thP tb T', rowP 2 1 (.slice a1 1 cp1) 1 (intC [bit true]), rowP 2 1 (.slice a2 1 cp2) 1 (intC [bit true]), rowP 2 1 (.slice a3 1 cp3) 1 (intC [bit true])]) := H6
          have H6 := H6.first
          obtain ⟨v0, v1, v2, v3, v4, v5⟩ := wdL_cells H6
          obtain ⟨g9, ee, hcc, hat⟩ := (H6.row 4 (t := 29) (sz := 1) (n := k) (v := .slice a k cp) (us := intC (tolds k)) rfl).rdv.at (by omega)
          have ee : a = some g9 := by simpa using ee
          subst ee
          have y1 : w6.cell? g9 = some (.int .i64 (told 0)) := hat 0 _ (tolds_get (by omega))
          have HH := Lib.hid H6
          have okA := Lib.hid (HO.out.ar.ok (by omega))
          clear CY H6 hat
          go_upto_region 15 with fail
          go_quiet ((go_at_call 47; exact Calls.quiet_of_same ((Way_q (HH.out.drewN _) 1 rfl okA.out (told 0) 0 HY.out.1).mono (R' := fun e w' => e = .returned (.int .i64 88) ∧ w' = _) (fun e w' h => ⟨by have := h.1; rw [HY.out.2.1] at this; exact this, h.2⟩))))
          go_wp2_with fail
          have CST := State_h (HH.out.drewN nq) 2 rfl 1
          rw [HY.out.2.2.1] at CST
          have CST := Lib.hid CST
          refine CST.out.mono ?_
          rintro e w' ⟨rfl, hw⟩
          have hw := hw.symm
          subst hw
          clear CST
          go_wp2_with fail
          exact ⟨⟨j + 1, by go_num, by omega, Lib.hid ⟨s1, .inr rfl, HO.out, HH.out.drewN nq⟩⟩, by simp [intOf]; omega⟩
        · go_wp2_with fail
          go_ret
          obtain ⟨s, hs, ok, H0⟩ := HQ.out
          exact ⟨rfl, H0.below⟩
end Go.Proofs.Ythkohomogknddaa
