/- ThreadAsks: the law's walk. No condition but that what is handed in can be read. -/
import Derived.Test.YtblijgdmfohfcaaThP
namespace Go.Proofs.Ytblijgdmfohfcaa
open Go Go.RowKit
set_option linter.unusedVariables false
set_option linter.unusedSimpArgs false
def asOut : List Bool → Nat → List Int
  | [], _ => []
  | b :: r, i => (if b = true then [(i : Int)] else []) ++ asOut r (i + 1)
theorem asOut_len : ∀ (l : List Bool) (i : Nat), (asOut l i).length ≤ l.length
  | [], _ => Nat.le_refl _
  | b :: r, i => by
    have := asOut_len r (i + 1)
    cases b <;> simp [asOut] <;> omega
theorem asOut_snoc : ∀ (l : List Bool) (b : Bool) (i : Nat), asOut (l ++ [b]) i = asOut l i ++ (if b = true then [((i + l.length : Nat) : Int)] else [])
  | [], b, i => by simp [asOut]
  | c :: r, b, i => by
    have := asOut_snoc r b (i + 1)
    simp only [List.cons_append, asOut, this, List.append_assoc, List.length_cons]
    rw [show i + 1 + r.length = i + (r.length + 1) from by omega]
theorem as_rest : ∀ (m r : List Bool) (i : Nat) (out : List Int), (asP (m ++ r) i out).told (m.map bitA) ∧ (asP (m ++ r) i out).rest (m.map bitA) = asP r (i + m.length) (out ++ asOut m i)
  | [], r, i, out => ⟨by cases r <;> trivial, by simp [rest_nil, asOut]⟩
  | b :: m, r, i, out => by
    obtain ⟨h1, h2⟩ := as_rest m r (i + 1) (if bitA b = 1 then out ++ [(i : Int)] else out)
    refine ⟨h1, ?_⟩
    show (asP (m ++ r) (i + 1) (if bitA b = 1 then out ++ [(i : Int)] else out)).rest (m.map bitA) = _
    rw [h2, List.length_cons, show i + 1 + m.length = i + (m.length + 1) from by omega]
    congr 1
    cases b <;> simp [bitA, asOut]
theorem as_facts (k n : Nat) (hk : k < n) (hn : n ≤ 30) : IntKind.i64.wrap ((n : Int) - 1) = (n : Int) - 1 ∧ IntKind.i64.wrap ((k : Int) + 1) = (k : Int) + 1 := by
  rw [IntKind.wrap_i64, IntKind.wrap_i64]
  omega
def asV (lb nb sb : Nat) : Value := .func (.func 28) #[] #[.pointer (some ⟨lb, 0, none⟩), .pointer (some ⟨nb, 0, none⟩), .pointer (some ⟨sb, 0, none⟩)]
section
variable {w0 w : World} {T : Th} {lb nb sb tb : Nat} {no : Int} {pa : Option Addr} {pc : Nat}
theorem Step_as {bs : List Bool} {k : Nat} (h : Heap w0 w ((asPl lb nb sb tb (.slice pa bs.length pc) no).F (k : Nat) T)) (hwork : T.work = asV lb nb sb) (hdone : T.done = false) (hlog : T.log = (bs.take k).map bitA) (hk : k ≤ bs.length) (hlen : bs.length ≤ 30) (hno : 0 ≤ no ∧ no ≤ 255) (R : RdV w0 (.slice pa bs.length pc) bs.length 1 (bs.map Value.bool)) :
    (k + 1 < bs.length → Calls Try.prog 12 #[.pointer (some ⟨tb, 0, none⟩)] w fun e z => ∃ T', e = .returned (.bool false) ∧ Heap w0 z ((asPl lb nb sb tb (.slice pa bs.length pc) no).F ((k : Int) + 1) T') ∧ T'.work = asV lb nb sb ∧ T'.done = false ∧ T'.log = (bs.take (k + 1)).map bitA) ∧
    (k + 1 = bs.length → Calls Try.prog 12 #[.pointer (some ⟨tb, 0, none⟩)] w fun e z => ∃ T' a c, e = .returned (.bool true) ∧ Heap w0 z ((asPl lb nb sb tb (.slice pa bs.length pc) no).F ((k : Int) + 1) T' ++ [rowP 2 1 (.slice a (asOut bs 0).length c) (asOut bs 0).length (intC (asOut bs 0))]) ∧ T'.work = asV lb nb sb ∧ T'.done = true ∧ T'.log = (bs.take (k + 1)).map bitA ∧ T'.out = .slice a (asOut bs 0).length c) ∧
    (bs.length = 0 → Calls Try.prog 12 #[.pointer (some ⟨tb, 0, none⟩)] w fun e z => ∃ T' a c, e = .returned (.bool true) ∧ Heap w0 z ((asPl lb nb sb tb (.slice pa bs.length pc) no).F (k : Nat) T' ++ [rowP 2 1 (.slice a (asOut bs 0).length c) (asOut bs 0).length (intC (asOut bs 0))]) ∧ T'.work = asV lb nb sb ∧ T'.done = true ∧ T'.log = bs.map bitA ∧ T'.out = .slice a (asOut bs 0).length c) := by
  obtain ⟨q1, q2⟩ := as_rest (bs.take k) (bs.drop k) 0 []
  rw [List.take_append_drop] at q1 q2
  have hll : (bs.take k).length = k := by simp; omega
  rw [hll, Nat.zero_add, List.nil_append] at q2
  have C := fun (hns : (stepR ((asP bs 0 []).rest T.log) T.log ((k : Nat) : Int)).1 ≠ .stuck) => Step_task (pl := asPl lb nb sb tb (.slice pa bs.length pc) no) (Y := []) (s := ((k : Nat) : Int)) (T := T) (by rw [List.append_nil]; exact h) 28 #[] #[.pointer (some ⟨lb, 0, none⟩), .pointer (some ⟨nb, 0, none⟩), .pointer (some ⟨sb, 0, none⟩)] hwork hdone as_enters (asP bs 0 []) (by rw [hlog]; exact q1) hns
    (fun X z hz => by
      have := asWork_calls hz rfl ⟨Nat.zero_le _, by simp [Th.st, hlog]; omega, fun _ => ⟨by simp [Th.st, hlog]; omega, by unfold asOk; simp [Th.st]; omega⟩⟩ R hlen hno
      exact this)
  rw [hlog, q2] at C
  have step : ∀ (hlt : k < bs.length), stepR (asP (bs.drop k) k (asOut (bs.take k) 0)) ((bs.take k).map bitA) ((k : Nat) : Int) = ((if k + 1 = bs.length then .done (asOut bs 0) else .wait), ⟨(bs.take (k + 1)).map bitA, ((bs.take k).map bitA).length + 1, true, (k : Int) + 1⟩) := fun hlt => by
    have hd : bs.drop k = bs[k] :: bs.drop (k + 1) := List.drop_eq_getElem_cons hlt
    have ht : bs.take (k + 1) = bs.take k ++ [bs[k]] := by rw [List.take_add_one, List.getElem?_eq_getElem hlt]; rfl
    have ho : (if bitA bs[k] = 1 then asOut (bs.take k) 0 ++ [(k : Int)] else asOut (bs.take k) 0) = asOut (bs.take (k + 1)) 0 := by
      rw [ht, asOut_snoc, hll, Nat.zero_add]
      cases bs[k] <;> simp [bitA]
    rw [hd]
    unfold stepR asP
    dsimp only [asA]
    rw [ho]
    cases hdd : bs.drop (k + 1) with
    | nil =>
      have hle : bs.length ≤ k + 1 := List.drop_eq_nil_iff.1 hdd
      have he : k + 1 = bs.length := by omega
      have htk : bs.take (k + 1) = bs := List.take_of_length_le hle
      simp only [asP, if_pos he]
      rw [ht, List.map_append, ← ht, htk]
      rfl
    | cons y r =>
      have hne : ¬ k + 1 = bs.length := fun he => by rw [List.drop_eq_nil_of_le (by omega)] at hdd; cases hdd
      simp only [asP, if_neg hne]
      rw [ht, List.map_append]
      rfl
  refine ⟨fun hn => ?_, fun hn => ?_, fun hn => ?_⟩
  · rw [step (by omega), if_neg (by omega)] at C
    have C1 := C (by intro x; cases x)
    refine C1.mono fun e z hp => ?_
    obtain ⟨rfl, H⟩ := hp
    exact ⟨{ T.of ⟨(bs.take (k + 1)).map bitA, ((bs.take k).map bitA).length + 1, true, (k : Int) + 1⟩ with inn := false }, rfl, by rw [List.append_nil] at H; exact H, hwork, hdone, rfl⟩
  · rw [step (by omega), if_pos hn] at C
    have C1 := C (by intro x; cases x)
    refine C1.mono fun e z hp => ?_
    obtain ⟨a, c, rfl, H⟩ := hp
    exact ⟨{ T.of ⟨(bs.take (k + 1)).map bitA, ((bs.take k).map bitA).length + 1, true, (k : Int) + 1⟩ with inn := false, done := true, out := .slice a (asOut bs 0).length c }, a, c, rfl, by rw [List.append_nil] at H; exact H, hwork, rfl, rfl, rfl⟩
  · obtain rfl : bs = [] := List.eq_nil_of_length_eq_zero hn
    have hk0 : k = 0 := by simpa using hk
    subst hk0
    have C1 := C (by intro x; cases x)
    refine C1.mono fun e z hp => ?_
    obtain ⟨a, c, rfl, H⟩ := hp
    exact ⟨{ T.of ⟨[], 0, false, 0⟩ with inn := false, done := true, out := .slice a 0 c }, a, c, rfl, by rw [List.append_nil] at H; exact H, hwork, rfl, rfl, rfl⟩
end
set_option maxHeartbeats 16000000 in
set_option maxRecDepth 100000 in
theorem ThreadAsks_walk (v : Value) (bs : List Bool) (no : Int) (hno : 0 ≤ no ∧ no ≤ 255) (w : World) (R0 : RdV w v bs.length 1 (bs.map Value.bool)) :
    Calls Try.prog 9 #[v, .int .u8 no] w fun e w' => e = .returned (.bool true) ∧ Below w.heap.size w w' := by
  have hm0 := R0.short
  unfold maxLen at hm0
  obtain ⟨pa, pc, rfl⟩ := R0.len
  have HR := Lib.hid R0
  have HNO := Lib.hid hno
  have HM := Lib.hid hm0
  clear R0 hno hm0
  have hmf : ∀ (fn : Fn) (first cap : Array Value) (z : World), (Instr.makeFunc fn first cap).run Try.prog z = .ok (.func fn first cap) z := fun _ _ _ _ => rfl
  have H0 := ((Heap.start w).alloc 45 #[.slice pa bs.length pc]).alloc 5 #[.int .u8 no]
  have hs : (w.alloc (.cells #[.slice pa bs.length pc] 45)).heap.size = w.heap.size + 1 := by simp
  rw [hs] at H0
  go_enter Try.func9, Try.ntmps9
  go_wp2_with fail
  refine (Awake_calls _ _ (Fr.refl _ _)).mono ?_
  rintro e w1 ⟨rfl, F1⟩
  have H1 : Heap w w1 [blkP w.heap.size 45 #[.slice pa bs.length pc], blkP (w.heap.size + 1) 5 #[.int .u8 no]] := H0.go F1
  clear H0 F1 hs
  generalize hlb : w.heap.size = lb at *
  generalize hnb : lb + 1 = nb at *
  clear hlb hnb
  have k1 : w1.cell? ⟨lb, 0, none⟩ = some (.slice pa bs.length pc) := (H1.blk 0 rfl).cell 0
  by_cases h30 : 30 < bs.length
  · have HB := Lib.hid H1.below
    clear H1
    go_wp2_with fail
    go_ret
    exact ⟨rfl, HB.out⟩
  have H2 := H1.alloc 3 #[.int .i64 0]
  have HH := Lib.hid H2
  clear H1 H2
  go_upto_region 6 with fail
  generalize w1.heap.size = sb at *
  generalize w1.alloc (.cells #[.int .i64 0] 3) = w2 at *
  go_wp2_with fail
  refine (New_h HH.out 28 #[] #[.pointer (some ⟨lb, 0, none⟩), .pointer (some ⟨nb, 0, none⟩), .pointer (some ⟨sb, 0, none⟩)]).mono ?_
  generalize w2.heap.size = tb at *
  rintro e w3 ⟨rfl, H3⟩
  have H4 : Heap w w3 ((asPl lb nb sb tb (.slice pa bs.length pc) no).F ((0 : Nat) : Int) (newTh (asV lb nb sb)) ++ []) := H3
  have k3 : w3.cell? ⟨lb, 0, none⟩ = some (.slice pa bs.length pc) := (H4.blk 0 rfl).cell 0
  have HH := Lib.hid H4
  clear H3 H4 k1
  go_wp2_with fail
  go_loopw [20] (fun i wr => ∃ (k : Nat) (T : Th) (Y : List Piece), i = .int .i64 (k : Nat) ∧ k ≤ bs.length ∧ Hid (T.work = asV lb nb sb ∧ T.log = (bs.take k).map bitA) ∧ Hid ((k < bs.length ∨ bs.length = 0) → T.done = false ∧ Y = []) ∧ Hid (k = bs.length ∧ 0 < bs.length → T.done = true ∧ ∃ a c, T.out = .slice a (asOut bs 0).length c ∧ Y = [rowP 2 1 (.slice a (asOut bs 0).length c) (asOut bs 0).length (intC (asOut bs 0))]) ∧ Hid (Heap w wr ((asPl lb nb sb tb (.slice pa bs.length pc) no).F (k : Nat) T ++ Y))) (fun i _ => bs.length - (intOf i).toNat)
  case atStart => exact ⟨0, newTh (asV lb nb sb), [], rfl, Nat.zero_le _, Lib.hid ⟨rfl, rfl⟩, Lib.hid (fun _ => ⟨rfl, rfl⟩), Lib.hid (fun x => by omega), HH⟩
  case round =>
    clear HH k3
    obtain ⟨k, T, Y, rfl, hk, HT, HD0, HD1, HH⟩ := hrel
    have q0 : wr.drew.cell? ⟨lb, 0, none⟩ = some (.slice pa bs.length pc) := (HH.out.blk 0 rfl).cell 0
    by_cases hlt : k < bs.length
    · obtain ⟨hTd, rfl⟩ := HD0.out (.inl hlt)
      obtain ⟨t1, t3⟩ := HT.out
      have hH := HH.out
      rw [List.append_nil] at hH
      obtain ⟨S1, S2, _⟩ := Step_as hH.drew t1 hTd t3 hk (by omega) HNO.out HR.out
      clear t1 t3 hTd hH HD0 HD1 HH HT
      by_cases hlast : k + 1 = bs.length
      · have CC := Lib.hid (S2 hlast)
        have hkb : ((k : Int) == (bs.length : Int) - 1) = true := by simp; omega
        have HLA := Lib.hid hlast
        clear S1 S2 hlast
        go_upto_region 10 with fail
        obtain ⟨hwl, hwk⟩ := as_facts k bs.length hlt (by omega)
        refine wp_region_noPanic ?_
        refine AnyK.start (ks := []) (S := fun w' => w'.cell? ⟨lb, 0, none⟩ = some (.slice pa bs.length pc)) (by kernel_rfl) (by exact q0) (fun _ => ?_)
        refine AnyK.take (i := 0) (v := ?_) rfl (by kernel_rfl) (by kernel_rfl) (by kernel_rfl) (by kernel_rfl) (fun _ _ _ h => h) (Or.inl ⟨by rfl, ?_⟩) (by exact q0) ?_
        rotate_left
        focus
          intro w9 hSw
          try dsimp only at hSw
          go_simp
          try with_reducible rfl
        try simp only [Act.put, List.setIfInBounds_toArray, List.set_cons_zero, List.set_cons_succ]
        refine AnyK.take (i := 2) (v := ?_) rfl (by kernel_rfl) (by kernel_rfl) (by kernel_rfl) (by kernel_rfl) (fun _ _ _ h => h) (Or.inl ⟨by rfl, ?_⟩) (by exact q0) ?_
        rotate_left
        focus
          intro w9 hSw
          try dsimp only at hSw
          go_simp
          try with_reducible rfl
        try simp only [Act.put, List.setIfInBounds_toArray, List.set_cons_zero, List.set_cons_succ]
        refine AnyK.take (i := 3) (v := ?_) rfl (by kernel_rfl) (by kernel_rfl) (by kernel_rfl) (by kernel_rfl) (fun _ _ _ h => h) (Or.inl ⟨by rfl, ?_⟩) (by exact q0) ?_
        rotate_left
        focus
          intro w9 hSw
          try dsimp only at hSw
          go_simp
          try with_reducible rfl
        try simp only [Act.put, List.setIfInBounds_toArray, List.set_cons_zero, List.set_cons_succ]
        refine AnyK.take (i := 4) (v := ?_) rfl (by kernel_rfl) (by kernel_rfl) (by kernel_rfl) (by kernel_rfl) (fun _ _ _ h => h) (Or.inl ⟨by rfl, ?_⟩) (by exact q0) ?_
        rotate_left
        focus
          intro w9 hSw
          try dsimp only at hSw
          go_simp
          try with_reducible rfl
        try simp only [Act.put, List.setIfInBounds_toArray, List.set_cons_zero, List.set_cons_succ]
        refine AnyK.take (i := 5) (v := ?_) rfl (by kernel_rfl) (by kernel_rfl) (by kernel_rfl) (by kernel_rfl) (fun _ _ _ h => h) (Or.inl ⟨by rfl, ?_⟩) (by exact q0) ?_
        rotate_left
        focus
          intro w9 hSw
          try dsimp only at hSw
          go_simp
          try with_reducible rfl
        try simp only [Act.put, List.setIfInBounds_toArray, List.set_cons_zero, List.set_cons_succ]
        refine AnyK.take (i := 6) (v := ?_) rfl (by kernel_rfl) (by kernel_rfl) (by kernel_rfl) (by kernel_rfl) (fun _ _ _ h => h) (Or.inl ⟨by rfl, ?_⟩) (by exact q0) ?_
        rotate_left
        focus
          intro w9 hSw
          try dsimp only at hSw
          go_simp
          try with_reducible rfl
        try simp only [Act.put, List.setIfInBounds_toArray, List.set_cons_zero, List.set_cons_succ]
        refine AnyK.one (i := 1) (by kernel_rfl) rfl (fun K9 hK9 => ?_)
        go_simp
        refine CC.out.mono ?_
        rintro e z1 ⟨T', a, c, rfl, H1, a1, a2, a3, a4⟩
        have q1 : z1.cell? ⟨lb, 0, none⟩ = some (.slice pa bs.length pc) := (H1.blk 0 rfl).cell 0
        have ka : z1.cell? ⟨sb, 0, none⟩ = some (.int .i64 ((k : Int) + 1)) := (H1.blk 2 rfl).cell 0
        refine hK9.out _ _ (fun _ => q1) ?_
        clear hK9 K9
        try simp only [Act.put, List.setIfInBounds_toArray, List.set_cons_zero, List.set_cons_succ]
        refine AnyK.one (i := 7) (by kernel_rfl) rfl (fun K9 hK9 => ?_)
        go_simp
        refine hK9.out _ _ (fun _ => q1) ?_
        clear hK9 K9
        try simp only [Act.put, List.setIfInBounds_toArray, List.set_cons_zero, List.set_cons_succ]
        refine AnyK.one (i := 8) (by kernel_rfl) rfl (fun K9 hK9 => ?_)
        go_simp
        refine hK9.out _ _ (fun _ => q1) ?_
        clear hK9 K9
        try simp only [Act.put, List.setIfInBounds_toArray, List.set_cons_zero, List.set_cons_succ]
        refine AnyK.take (i := 10) (v := ?_) rfl (by kernel_rfl) (by kernel_rfl) (by kernel_rfl) (by kernel_rfl) (fun _ _ _ h => h) (Or.inl ⟨by rfl, ?_⟩) (by exact q1) ?_
        rotate_left
        focus
          intro w9 hSw
          try dsimp only at hSw
          go_simp
          try with_reducible rfl
        try simp only [Act.put, List.setIfInBounds_toArray, List.set_cons_zero, List.set_cons_succ]
        refine AnyK.take (i := 11) (v := ?_) rfl (by kernel_rfl) (by kernel_rfl) (by kernel_rfl) (by kernel_rfl) (fun _ _ _ h => h) (Or.inl ⟨by rfl, ?_⟩) (by exact q1) ?_
        rotate_left
        focus
          intro w9 hSw
          try dsimp only at hSw
          go_simp
          try with_reducible rfl
        try simp only [Act.put, List.setIfInBounds_toArray, List.set_cons_zero, List.set_cons_succ]
        refine AnyK.one (i := 9) (by kernel_rfl) rfl (fun K9 hK9 => ?_)
        go_simp
        refine hK9.out _ _ (fun _ => q1) ?_
        clear hK9 K9
        try simp only [Act.put, List.setIfInBounds_toArray, List.set_cons_zero, List.set_cons_succ]
        refine AnyK.one (i := 12) (by kernel_rfl) rfl (fun K9 hK9 => ?_)
        go_simp
        refine hK9.out _ _ (fun _ => q1) ?_
        clear hK9 K9
        try simp only [Act.put, List.setIfInBounds_toArray, List.set_cons_zero, List.set_cons_succ]
        refine AnyK.one (i := 13) (by kernel_rfl) rfl (fun K9 hK9 => ?_)
        go_simp
        refine hK9.out _ _ (fun _ => q1) ?_
        clear hK9 K9
        try simp only [Act.put, List.setIfInBounds_toArray, List.set_cons_zero, List.set_cons_succ]
        clear hwl hwk
        refine AnyK.done (by kernel_rfl) ?_ _
        refine NoPanic.normal ?_
        have HX := Lib.hid (And.intro a1 (And.intro a2 (And.intro a3 a4)))
        have HH1 := Lib.hid H1
        clear H1 a1 a2 a3 a4 CC
        go_wp2_with fail
        obtain ⟨a1, a2, a3, a4⟩ := HX.out
        refine ⟨⟨k + 1, T', _, by go_num, by omega, Lib.hid ⟨a1, a3⟩, Lib.hid (fun x => by have := HLA.out; omega), Lib.hid (fun _ => ⟨a2, a, c, a4, rfl⟩), HH1⟩, by simp [intOf]; omega⟩
      · have CC := Lib.hid (S1 (by omega))
        have hkb : ((k : Int) == (bs.length : Int) - 1) = false := by simp; omega
        have HLA := Lib.hid hlast
        clear S1 S2 hlast
        go_upto_region 10 with fail
        obtain ⟨hwl, hwk⟩ := as_facts k bs.length hlt (by omega)
        refine wp_region_noPanic ?_
        refine AnyK.start (ks := []) (S := fun w' => w'.cell? ⟨lb, 0, none⟩ = some (.slice pa bs.length pc)) (by kernel_rfl) (by exact q0) (fun _ => ?_)
        refine AnyK.take (i := 0) (v := ?_) rfl (by kernel_rfl) (by kernel_rfl) (by kernel_rfl) (by kernel_rfl) (fun _ _ _ h => h) (Or.inl ⟨by rfl, ?_⟩) (by exact q0) ?_
        rotate_left
        focus
          intro w9 hSw
          try dsimp only at hSw
          go_simp
          try with_reducible rfl
        try simp only [Act.put, List.setIfInBounds_toArray, List.set_cons_zero, List.set_cons_succ]
        refine AnyK.take (i := 2) (v := ?_) rfl (by kernel_rfl) (by kernel_rfl) (by kernel_rfl) (by kernel_rfl) (fun _ _ _ h => h) (Or.inl ⟨by rfl, ?_⟩) (by exact q0) ?_
        rotate_left
        focus
          intro w9 hSw
          try dsimp only at hSw
          go_simp
          try with_reducible rfl
        try simp only [Act.put, List.setIfInBounds_toArray, List.set_cons_zero, List.set_cons_succ]
        refine AnyK.take (i := 3) (v := ?_) rfl (by kernel_rfl) (by kernel_rfl) (by kernel_rfl) (by kernel_rfl) (fun _ _ _ h => h) (Or.inl ⟨by rfl, ?_⟩) (by exact q0) ?_
        rotate_left
        focus
          intro w9 hSw
          try dsimp only at hSw
          go_simp
          try with_reducible rfl
        try simp only [Act.put, List.setIfInBounds_toArray, List.set_cons_zero, List.set_cons_succ]
        refine AnyK.take (i := 4) (v := ?_) rfl (by kernel_rfl) (by kernel_rfl) (by kernel_rfl) (by kernel_rfl) (fun _ _ _ h => h) (Or.inl ⟨by rfl, ?_⟩) (by exact q0) ?_
        rotate_left
        focus
          intro w9 hSw
          try dsimp only at hSw
          go_simp
          try with_reducible rfl
        try simp only [Act.put, List.setIfInBounds_toArray, List.set_cons_zero, List.set_cons_succ]
        refine AnyK.take (i := 5) (v := ?_) rfl (by kernel_rfl) (by kernel_rfl) (by kernel_rfl) (by kernel_rfl) (fun _ _ _ h => h) (Or.inl ⟨by rfl, ?_⟩) (by exact q0) ?_
        rotate_left
        focus
          intro w9 hSw
          try dsimp only at hSw
          go_simp
          try with_reducible rfl
        try simp only [Act.put, List.setIfInBounds_toArray, List.set_cons_zero, List.set_cons_succ]
        refine AnyK.take (i := 6) (v := ?_) rfl (by kernel_rfl) (by kernel_rfl) (by kernel_rfl) (by kernel_rfl) (fun _ _ _ h => h) (Or.inl ⟨by rfl, ?_⟩) (by exact q0) ?_
        rotate_left
        focus
          intro w9 hSw
          try dsimp only at hSw
          go_simp
          try with_reducible rfl
        try simp only [Act.put, List.setIfInBounds_toArray, List.set_cons_zero, List.set_cons_succ]
        refine AnyK.one (i := 1) (by kernel_rfl) rfl (fun K9 hK9 => ?_)
        go_simp
        refine CC.out.mono ?_
        rintro e z1 ⟨T', rfl, H1, a1, a2, a3⟩
        have q1 : z1.cell? ⟨lb, 0, none⟩ = some (.slice pa bs.length pc) := (H1.blk 0 rfl).cell 0
        have ka : z1.cell? ⟨sb, 0, none⟩ = some (.int .i64 ((k : Int) + 1)) := (H1.blk 2 rfl).cell 0
        refine hK9.out _ _ (fun _ => q1) ?_
        clear hK9 K9
        try simp only [Act.put, List.setIfInBounds_toArray, List.set_cons_zero, List.set_cons_succ]
        refine AnyK.one (i := 7) (by kernel_rfl) rfl (fun K9 hK9 => ?_)
        go_simp
        refine hK9.out _ _ (fun _ => q1) ?_
        clear hK9 K9
        try simp only [Act.put, List.setIfInBounds_toArray, List.set_cons_zero, List.set_cons_succ]
        refine AnyK.one (i := 8) (by kernel_rfl) rfl (fun K9 hK9 => ?_)
        go_simp
        refine hK9.out _ _ (fun _ => q1) ?_
        clear hK9 K9
        try simp only [Act.put, List.setIfInBounds_toArray, List.set_cons_zero, List.set_cons_succ]
        refine AnyK.take (i := 10) (v := ?_) rfl (by kernel_rfl) (by kernel_rfl) (by kernel_rfl) (by kernel_rfl) (fun _ _ _ h => h) (Or.inl ⟨by rfl, ?_⟩) (by exact q1) ?_
        rotate_left
        focus
          intro w9 hSw
          try dsimp only at hSw
          go_simp
          try with_reducible rfl
        try simp only [Act.put, List.setIfInBounds_toArray, List.set_cons_zero, List.set_cons_succ]
        refine AnyK.take (i := 11) (v := ?_) rfl (by kernel_rfl) (by kernel_rfl) (by kernel_rfl) (by kernel_rfl) (fun _ _ _ h => h) (Or.inl ⟨by rfl, ?_⟩) (by exact q1) ?_
        rotate_left
        focus
          intro w9 hSw
          try dsimp only at hSw
          go_simp
          try with_reducible rfl
        try simp only [Act.put, List.setIfInBounds_toArray, List.set_cons_zero, List.set_cons_succ]
        refine AnyK.one (i := 9) (by kernel_rfl) rfl (fun K9 hK9 => ?_)
        go_simp
        refine hK9.out _ _ (fun _ => q1) ?_
        clear hK9 K9
        try simp only [Act.put, List.setIfInBounds_toArray, List.set_cons_zero, List.set_cons_succ]
        refine AnyK.one (i := 12) (by kernel_rfl) rfl (fun K9 hK9 => ?_)
        go_simp
        refine hK9.out _ _ (fun _ => q1) ?_
        clear hK9 K9
        try simp only [Act.put, List.setIfInBounds_toArray, List.set_cons_zero, List.set_cons_succ]
        refine AnyK.one (i := 13) (by kernel_rfl) rfl (fun K9 hK9 => ?_)
        go_simp
        refine hK9.out _ _ (fun _ => q1) ?_
        clear hK9 K9
        try simp only [Act.put, List.setIfInBounds_toArray, List.set_cons_zero, List.set_cons_succ]
        clear hwl hwk
        refine AnyK.done (by kernel_rfl) ?_ _
        refine NoPanic.normal ?_
        have HX := Lib.hid (And.intro a1 (And.intro a2 a3))
        have HH1 := Lib.hid H1
        clear H1 a1 a2 a3 CC
        go_wp2_with fail
        obtain ⟨a1, a2, a3⟩ := HX.out
        refine ⟨⟨k + 1, T', [], by go_num, by omega, Lib.hid ⟨a1, a3⟩, Lib.hid (fun _ => ⟨a2, rfl⟩), Lib.hid (fun x => by have := HLA.out; omega), Lib.hid (by rw [List.append_nil]; exact HH1.out)⟩, by simp [intOf]; omega⟩
    · have hke : k = bs.length := by omega
      have FIN : Calls Try.prog 12 #[.pointer (some ⟨tb, 0, none⟩)] wr fun e z => ∃ T' a c, e = .returned (.bool true) ∧ Heap w z ((asPl lb nb sb tb (.slice pa bs.length pc) no).F (bs.length : Nat) T' ++ [rowP 2 1 (.slice a (asOut bs 0).length c) (asOut bs 0).length (intC (asOut bs 0))]) ∧ T'.work = asV lb nb sb ∧ T'.done = true ∧ T'.log = bs.map bitA ∧ T'.out = .slice a (asOut bs 0).length c := by
        obtain ⟨t1, t3⟩ := HT.out
        by_cases hz : bs.length = 0
        · obtain ⟨hTd, rfl⟩ := HD0.out (.inr hz)
          have hH := HH.out
          rw [List.append_nil] at hH
          have := (Step_as hH t1 hTd t3 hk (by omega) HNO.out HR.out).2.2 hz
          rw [hke] at this
          exact this
        · obtain ⟨hTd, a, c, hout, rfl⟩ := HD1.out ⟨hke, by omega⟩
          refine (Step_over HH.out 3 (tb := tb) (T := T) rfl hTd).mono ?_
          rintro e z ⟨rfl, rfl⟩
          have hH := HH.out
          rw [hke] at hH t3
          rw [List.take_of_length_le (Nat.le_refl _)] at t3
          exact ⟨T, a, c, rfl, hH, t1, hTd, t3, hout⟩
      have FF := Lib.hid FIN
      clear FIN HD0 HD1 HT
      have HLT := Lib.hid hlt
      go_wp2_with fail
      refine FF.out.mono ?_
      rintro e z0 ⟨T', a, c, rfl, H1, a1, a2, a3, a4⟩
      clear FF HH hlt hke hk q0
      have hol := asOut_len bs 0
      have H2 := H1.rowNil 2 1
      have HH : Hid (Heap w z0 ([blkP lb 45 #[.slice pa bs.length pc], blkP nb 5 #[.int .u8 no], blkP sb 3 #[.int .i64 (bs.length : Nat)], thP tb T', rowP 2 1 (.slice a (asOut bs 0).length c) (asOut bs 0).length (intC (asOut bs 0)), rowP 2 1 (.slice none 0 0) (asOut (bs.take 0) 0).length (intC (asOut (bs.take 0) 0))] : List Piece)) := Lib.hid H2
      have HX := Lib.hid (And.intro a1 (And.intro a2 (And.intro a3 a4)))
      have kz : z0.cell? ⟨lb, 0, none⟩ = some (.slice pa bs.length pc) := (H1.blk 0 rfl).cell 0
      obtain ⟨i0, hi0, hz0, hz1, hz2⟩ := info_parts info_i64t
      have I0 := Lib.hid (And.intro hi0 (And.intro hz0 (And.intro hz1 hz2)))
      clear H1 H2 a1 a2 a3 a4 hi0 hz0 hz1 hz2
      go_wp2_with fail
      go_loopw [8, 42] (fun o i wr => ∃ j : Nat, i = .int .i64 (j : Nat) ∧ j ≤ bs.length ∧ Hid (Heap w wr ([blkP lb 45 #[.slice pa bs.length pc], blkP nb 5 #[.int .u8 no], blkP sb 3 #[.int .i64 (bs.length : Nat)], thP tb T', rowP 2 1 (.slice a (asOut bs 0).length c) (asOut bs 0).length (intC (asOut bs 0)), rowP 2 1 o (asOut (bs.take j) 0).length (intC (asOut (bs.take j) 0))] : List Piece))) (fun _ i _ => bs.length - (intOf i).toNat)
      case atStart => exact ⟨0, rfl, Nat.zero_le _, HH⟩
      case round =>
        clear HH kz
        obtain ⟨j, rfl, hj, HH⟩ := hrel
        obtain ⟨oa, oc, rfl, _, _⟩ := (HH.out.row 5 rfl).form
        by_cases hlt : j < bs.length
        · obtain ⟨b1, eb, hc1, hat1⟩ := (HR.out.fr HH.out.fr (fun _ _ _ (x : nob _) => x)).at (by omega)
          subst eb
          have x1 : wr.cell? (b1.add j) = some (.bool bs[j]) := hat1 _ _ (by simp [List.getElem?_eq_getElem hlt])
          have ht : bs.take (j + 1) = bs.take j ++ [bs[j]] := by rw [List.take_add_one, List.getElem?_eq_getElem hlt]; rfl
          have hll : (bs.take j).length = j := by simp; omega
          have ho := asOut_snoc (bs.take j) bs[j] 0
          rw [← ht, hll, Nat.zero_add] at ho
          generalize bs[j] = b at *
          have hjl := asOut_len (bs.take j) 0
          rw [hll] at hjl
          have HO := Lib.hid ho
          clear hat1 hc1 ht hll ho
          cases b with
          | false =>
            go_wp2_with fail
            refine ⟨⟨j + 1, by go_num, by omega, Lib.hid (by have := HO.out; simp at this; rw [this]; exact HH.out)⟩, by simp [intOf]; omega⟩
          | true =>
            generalize hol2 : asOut (bs.take j) 0 = outs at *
            have QQ := Lib.hid (HH.out.row 5 (t := 2) (sz := 1) (n := outs.length) (v := .slice oa outs.length oc) (us := intC outs) rfl)
            have hlm' : outs.length + 1 ≤ maxLen := by unfold maxLen; omega
            have hlb : (outs.length + 1) * 8 ≤ 140737488355328 := by omega
            have HB := Lib.hid (And.intro hlm' hlb)
            clear hlm' hlb hol2
            go_wp2_with (at_builtin; refine wpList_append_typed _ rfl _ _ _ (by rfl) 2 i0 (.int .i64 0) 1 8 Try.underlying26 I0.out.1 I0.out.2.1 I0.out.2.2.1 I0.out.2.2.2 rfl (by decide) (.slice oa outs.length oc) outs.length (intC outs) (by rfl) (QQ.out.fr (F := nob) (by repeat (first | exact Fr.refl _ _ | apply Fr.drew | apply Fr.alloc)) (fun _ _ _ x => x)) _ 1 [.int .i64 (j : Nat)] (by rfl) (RdV.block (cs := #[.int .i64 (j : Nat)]) (t := 2) (by repeat (first | exact Blk.new' rfl _ _ | apply Blk.drew | apply Blk.alloc)) rfl (by decide)) (by simp [Value.oneCell']) HB.out.1 HB.out.2 ?_)
            intro a' c' w8 q' grow hat
            have G := HH.out.growRow 5 (t := 2) (sz := 1) (n := outs.length) (v := .slice oa outs.length oc) (us := intC outs) rfl (Fr.alloc (Fr.refl nob wr) (.cells #[.int .i64 (j : Nat)] 2)) q' grow (fun g hg => (hat g hg).imp_left (fun h => h.imp_right (fun h => by simpa using h)))
            have GG : Hid (Heap w w8 ([blkP lb 45 #[.slice (some b1) bs.length pc], blkP nb 5 #[.int .u8 no], blkP sb 3 #[.int .i64 (bs.length : Nat)], thP tb T', rowP 2 1 (.slice a (asOut bs 0).length c) (asOut bs 0).length (intC (asOut bs 0)), rowP 2 1 (.slice a' (outs.length + 1) c') (outs.length + 1) (intC outs ++ [.int .i64 (j : Nat)])] : List Piece)) := Lib.hid G
            clear G q' grow hat QQ HH
            go_wp2_with fail
            refine ⟨⟨j + 1, by go_num, by omega, Lib.hid (by have := HO.out; simp at this; rw [this]; simpa [intC] using GG.out)⟩, by simp [intOf]; omega⟩
        · have hje : j = bs.length := by omega
          obtain ⟨a1, a2, a3, a4⟩ := HX.out
          have hH := HH.out
          rw [hje, List.take_of_length_le (Nat.le_refl _)] at hH
          have eo : (asOut (bs.take j) 0).length = (asOut bs 0).length := by rw [hje, List.take_of_length_le (Nat.le_refl _)]
          have q0 : wr.drew.cell? ⟨lb, 0, none⟩ = some (.slice pa bs.length pc) := (HH.out.blk 0 rfl).cell 0
          rw [eo] at *
          have DN0 := Done_h hH.drew 3 (tb := tb) (T := T') rfl 28 #[] #[.pointer (some ⟨lb, 0, none⟩), .pointer (some ⟨nb, 0, none⟩), .pointer (some ⟨sb, 0, none⟩)] a1
          rw [a2] at DN0
          have ST0 := Steps_h hH.drew 3 (tb := tb) (T := T') rfl
          rw [a3, List.length_map] at ST0
          have DN := Lib.hid DN0
          have ST := Lib.hid ST0
          have OT := Lib.hid (Out_some hH.drew 3 (tb := tb) (T := T') rfl a2 a (asOut bs 0).length c a4 (asOut bs 0) (hH.drew.row 4 rfl).rdv (by omega))
          clear DN0 ST0 a1 a2 a3 a4 hH HH eo
          go_upto_region 21 with fail
          refine wp_region_noPanic ?_
          refine AnyK.start (ks := []) (S := fun w' => w'.cell? ⟨lb, 0, none⟩ = some (.slice pa bs.length pc)) (by kernel_rfl) (by exact q0) (fun _ => ?_)
          refine AnyK.take (i := 0) (v := ?_) rfl (by kernel_rfl) (by kernel_rfl) (by kernel_rfl) (by kernel_rfl) (fun _ _ _ h => h) (Or.inl ⟨by rfl, ?_⟩) (by exact q0) ?_
          rotate_left
          focus
            intro w9 hSw
            try dsimp only at hSw
            go_simp
            try with_reducible rfl
          try simp only [Act.put, List.setIfInBounds_toArray, List.set_cons_zero, List.set_cons_succ]
          refine AnyK.one (i := 1) (by kernel_rfl) rfl (fun K9 hK9 => ?_)
          go_simp
          refine DN.out.mono ?_
          rintro e w' ⟨rfl, hw⟩
          have hw := hw.symm
          subst hw
          refine hK9.out _ _ (fun _ => q0) ?_
          clear hK9 K9
          try simp only [Act.put, List.setIfInBounds_toArray, List.set_cons_zero, List.set_cons_succ]
          refine AnyK.one (i := 2) (by kernel_rfl) rfl (fun K9 hK9 => ?_)
          go_simp
          refine hK9.out _ _ (fun _ => q0) ?_
          clear hK9 K9
          try simp only [Act.put, List.setIfInBounds_toArray, List.set_cons_zero, List.set_cons_succ]
          refine AnyK.take (i := 3) (v := ?_) rfl (by kernel_rfl) (by kernel_rfl) (by kernel_rfl) (by kernel_rfl) (fun _ _ _ h => h) (Or.inl ⟨by rfl, ?_⟩) (by exact q0) ?_
          rotate_left
          focus
            intro w9 hSw
            try dsimp only at hSw
            go_simp
            try with_reducible rfl
          try simp only [Act.put, List.setIfInBounds_toArray, List.set_cons_zero, List.set_cons_succ]
          refine AnyK.take (i := 5) (v := ?_) rfl (by kernel_rfl) (by kernel_rfl) (by kernel_rfl) (by kernel_rfl) (fun _ _ _ h => h) (Or.inl ⟨by rfl, ?_⟩) (by exact q0) ?_
          rotate_left
          focus
            intro w9 hSw
            try dsimp only at hSw
            go_simp
            try with_reducible rfl
          try simp only [Act.put, List.setIfInBounds_toArray, List.set_cons_zero, List.set_cons_succ]
          refine AnyK.take (i := 6) (v := ?_) rfl (by kernel_rfl) (by kernel_rfl) (by kernel_rfl) (by kernel_rfl) (fun _ _ _ h => h) (Or.inl ⟨by rfl, ?_⟩) (by exact q0) ?_
          rotate_left
          focus
            intro w9 hSw
            try dsimp only at hSw
            go_simp
            try with_reducible rfl
          try simp only [Act.put, List.setIfInBounds_toArray, List.set_cons_zero, List.set_cons_succ]
          refine AnyK.one (i := 4) (by kernel_rfl) rfl (fun K9 hK9 => ?_)
          go_simp
          refine ST.out.mono ?_
          rintro e w' ⟨rfl, hw⟩
          have hw := hw.symm
          subst hw
          refine hK9.out _ _ (fun _ => q0) ?_
          clear hK9 K9
          try simp only [Act.put, List.setIfInBounds_toArray, List.set_cons_zero, List.set_cons_succ]
          refine AnyK.one (i := 7) (by kernel_rfl) rfl (fun K9 hK9 => ?_)
          go_simp
          refine hK9.out _ _ (fun _ => q0) ?_
          clear hK9 K9
          try simp only [Act.put, List.setIfInBounds_toArray, List.set_cons_zero, List.set_cons_succ]
          refine AnyK.one (i := 8) (by kernel_rfl) rfl (fun K9 hK9 => ?_)
          go_simp
          refine hK9.out _ _ (fun _ => q0) ?_
          clear hK9 K9
          try simp only [Act.put, List.setIfInBounds_toArray, List.set_cons_zero, List.set_cons_succ]
          refine AnyK.one (i := 9) (by kernel_rfl) rfl (fun K9 hK9 => ?_)
          go_simp
          refine hK9.out _ _ (fun _ => q0) ?_
          clear hK9 K9
          try simp only [Act.put, List.setIfInBounds_toArray, List.set_cons_zero, List.set_cons_succ]
          refine AnyK.take (i := 10) (v := ?_) rfl (by kernel_rfl) (by kernel_rfl) (by kernel_rfl) (by kernel_rfl) (fun _ _ _ h => h) (Or.inl ⟨by rfl, ?_⟩) (by exact q0) ?_
          rotate_left
          focus
            intro w9 hSw
            try dsimp only at hSw
            go_simp
            try with_reducible rfl
          try simp only [Act.put, List.setIfInBounds_toArray, List.set_cons_zero, List.set_cons_succ]
          refine AnyK.take (i := 12) (v := ?_) rfl (by kernel_rfl) (by kernel_rfl) (by kernel_rfl) (by kernel_rfl) (fun _ _ _ h => h) (Or.inl ⟨by rfl, ?_⟩) (by exact q0) ?_
          rotate_left
          focus
            intro w9 hSw
            try dsimp only at hSw
            go_simp
            try with_reducible rfl
          try simp only [Act.put, List.setIfInBounds_toArray, List.set_cons_zero, List.set_cons_succ]
          refine AnyK.one (i := 11) (by kernel_rfl) rfl (fun K9 hK9 => ?_)
          go_simp
          refine OT.out.mono ?_
          rintro e z2 ⟨o2, c2, rfl, H2⟩
          have q1 : z2.cell? ⟨lb, 0, none⟩ = some (.slice pa bs.length pc) := (H2.blk 0 rfl).cell 0
          refine hK9.out _ _ (fun _ => q1) ?_
          clear hK9 K9
          try simp only [Act.put, List.setIfInBounds_toArray, List.set_cons_zero, List.set_cons_succ]
          refine AnyK.one (i := 13) (by kernel_rfl) rfl (fun K9 hK9 => ?_)
          go_simp
          refine (same_yes _ _ (asOut bs 0) _ (H2.row 6 rfl).rdv (H2.row 5 rfl).rdv).mono ?_
          rintro e z3 ⟨rfl, F3⟩
          have q2 := F3.cell' q1 (fun x => x)
          refine hK9.out _ _ (fun _ => q2) ?_
          clear hK9 K9
          try simp only [Act.put, List.setIfInBounds_toArray, List.set_cons_zero, List.set_cons_succ]
          refine AnyK.one (i := 14) (by kernel_rfl) rfl (fun K9 hK9 => ?_)
          go_simp
          refine hK9.out _ _ (fun _ => q2) ?_
          clear hK9 K9
          try simp only [Act.put, List.setIfInBounds_toArray, List.set_cons_zero, List.set_cons_succ]
          refine AnyK.one (i := 15) (by kernel_rfl) rfl (fun K9 hK9 => ?_)
          go_simp
          refine hK9.out _ _ (fun _ => q2) ?_
          clear hK9 K9
          try simp only [Act.put, List.setIfInBounds_toArray, List.set_cons_zero, List.set_cons_succ]
          refine AnyK.done (by kernel_rfl) ?_ _
          refine NoPanic.normal ?_
          go_wp2_with fail
          go_ret
          exact ⟨rfl, (H2.go F3).below⟩
end Go.Proofs.Ytblijgdmfohfcaa
