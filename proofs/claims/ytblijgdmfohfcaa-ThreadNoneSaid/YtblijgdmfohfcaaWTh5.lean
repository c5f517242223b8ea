/- ThreadNone: the law's walk. No condition but that what is handed in can be read. -/
import Derived.Test.YtblijgdmfohfcaaThM
namespace Go.Proofs.Ytblijgdmfohfcaa
open Go Go.RowKit
set_option linter.unusedVariables false
set_option linter.unusedSimpArgs false
/-- A fact, as a piece. -/
def pureP (p : Prop) : Piece := ⟨fun _ _ => p, fun h _ _ _ => h⟩
def noV (A : Nat) : Value := .func (.func 22) #[] #[.pointer (some ⟨A, 0, none⟩)]
theorem none_enters (x : Array Value) (z : World) : (callFunc 22 x).run Try.prog z = .ok (.enter 22 x) z := rfl
section
variable {w0 w : World} {A tb : Nat} {T : Th} {oa : Option Addr} {n oc : Nat}
theorem noWork_calls (p : Value) (hc : w.cell? ⟨A, 0, none⟩ = some (.slice oa n oc)) : Calls Try.prog 22 #[p, .pointer (some ⟨A, 0, none⟩)] w fun e w' => e = .returned (.slice oa n oc) ∧ w' = w := by
  go_enter Try.func22, Try.ntmps22
  go_wp2_with fail
  go_ret
  exact ⟨rfl, rfl⟩
theorem Step_no (h : Heap w0 w [blkP A 26 #[.slice oa n oc], thP tb T]) (hwork : T.work = noV A) (hdone : T.done = false) : Calls Try.prog 12 #[.pointer (some ⟨tb, 0, none⟩)] w fun e z => ∃ T1, e = .returned (.bool true) ∧ Heap w0 z [blkP A 26 #[.slice oa n oc], thP tb T1] ∧ T1.work = noV A ∧ T1.done = true ∧ T1.out = .slice oa n oc ∧ T1.log = T.log := by
  refine (Step_done h 1 rfl 22 #[] #[.pointer (some ⟨A, 0, none⟩)] hwork hdone none_enters [blkP A 26 #[.slice oa n oc], thP tb T] { T with at' := 0, spent := false, inn := true } (by simp) rfl (fun val => [pureP (val = .slice oa n oc)]) (fun X z hz => ?_)).mono ?_
  · have hc : z.cell? ⟨A, 0, none⟩ = some (.slice oa n oc) := (hz.blk 0 rfl).cell 0
    have C := noWork_calls (.pointer (some ⟨tb, 0, none⟩)) hc
    refine Calls.mono C ?_
    rintro e w' ⟨rfl, rfl⟩
    exact ⟨oa, n, oc, rfl, hz.push (Fr.refl _ _) (p := pureP _) (S := fun _ => False) rfl (fun _ x => x.elim)⟩
  · rintro e z ⟨a, m, c, rfl, H⟩
    obtain ⟨S, hS, _⟩ := H.get 2 rfl
    have hv : Value.slice a m c = .slice oa n oc := hS
    rw [hv] at H
    exact ⟨_, rfl, Heap.first (l := [_, _]) H, hwork, rfl, rfl, rfl⟩
end
set_option maxHeartbeats 16000000 in
set_option maxRecDepth 100000 in
theorem ThreadNone_walk (v : Value) (xs : List Int) (w : World) (R0 : RdV w v xs.length 1 (xs.map (Value.int .i64))) (hx : ∀ n ∈ xs, (Lit.int .i64 n).wf = true) :
    Calls Try.prog 7 #[v] w fun e w' => e = .returned (.bool true) ∧ Below w.heap.size w w' := by
  clear hx
  have hm0 := R0.short
  unfold maxLen at hm0
  obtain ⟨oa, oc, rfl⟩ := R0.len
  have HR : Hid (RdV w (.slice oa xs.length oc) xs.length 1 (intC xs)) := Lib.hid R0
  clear R0
  have hmf : ∀ (fn : Fn) (first cap : Array Value) (z : World), (Instr.makeFunc fn first cap).run Try.prog z = .ok (.func fn first cap) z := fun _ _ _ _ => rfl
  have H0 := (Heap.start w).alloc 26 #[.slice oa xs.length oc]
  have HM := Lib.hid hm0
  clear hm0
  go_enter Try.func7, Try.ntmps7
  go_wp2_with fail
  refine (Awake_calls _ _ (Fr.refl _ _)).mono ?_
  rintro e w1 ⟨rfl, F1⟩
  have H1 : Heap w w1 [blkP w.heap.size 26 #[.slice oa xs.length oc]] := H0.go F1
  clear H0 F1
  generalize w.heap.size = A at *
  have k1 : w1.cell? ⟨A, 0, none⟩ = some (.slice oa xs.length oc) := (H1.blk 0 rfl).cell 0
  by_cases h40 : 40 < xs.length
  · have HB := Lib.hid H1.below
    clear H1
    go_wp2_with fail
    go_ret
    exact ⟨rfl, HB.out⟩
  have HH := Lib.hid H1
  clear H1
  go_wp2_with fail
  refine (New_h HH.out 22 #[] #[.pointer (some ⟨A, 0, none⟩)]).mono ?_
  generalize w1.heap.size = tb at *
  rintro e w3 ⟨rfl, H3⟩
  have H4 : Heap w w3 [blkP A 26 #[.slice oa xs.length oc], thP tb (newTh (noV A))] := H3
  clear H3 HH k1
  have q0 : w3.drew.cell? ⟨A, 0, none⟩ = some (.slice oa xs.length oc) := (H4.blk 0 rfl).cell 0
  have HD := Lib.hid H4.drew
  have D0 : Hid (Calls Try.prog 14 #[.pointer (some ⟨tb, 0, none⟩)] w3.drew fun e w' => e = .returned (.bool false) ∧ w' = w3.drew) := Lib.hid (Done_h HD.out 1 (tb := tb) (T := newTh (noV A)) rfl 22 #[] #[.pointer (some ⟨A, 0, none⟩)] rfl)
  have O0 := Lib.hid (Out_none HD.out 1 (tb := tb) (T := newTh (noV A)) rfl rfl)
  have ST := Lib.hid (Step_no HD.out rfl rfl)
  have HLN : Hid (xs.length ≤ 1000000) := Lib.hid (by omega)
  clear H4
  go_upto_region 6 with fail
  refine wp_region_noPanic ?_
  refine AnyK.start (ks := []) (S := fun w' => w'.cell? ⟨A, 0, none⟩ = some (.slice oa xs.length oc)) (by kernel_rfl) (by exact q0) (fun _ => ?_)
  refine AnyK.take (i := 0) (v := ?_) rfl (by kernel_rfl) (by kernel_rfl) (by kernel_rfl) (by kernel_rfl) (fun _ _ _ h => h) (Or.inl ⟨by rfl, ?_⟩) (by exact q0) ?_
  rotate_left
  focus
    intro w9 hSw
    try dsimp only at hSw
    go_simp
    try with_reducible rfl
  try simp only [Act.put, List.setIfInBounds_toArray, List.set_cons_zero, List.set_cons_succ]
  refine AnyK.one (i := 1) (by kernel_rfl) rfl (fun K9 hK9 => ?_)
  go_simp
  refine D0.out.mono ?_
  rintro e w' ⟨rfl, hw⟩
  have hw := hw.symm
  subst hw
  refine hK9.out _ _ (fun _ => q0) ?_
  clear hK9 K9
  try simp only [Act.put, List.setIfInBounds_toArray, List.set_cons_zero, List.set_cons_succ]
  refine AnyK.one (i := 2) (by kernel_rfl) rfl (fun K9 hK9 => ?_)
  go_simp
  refine hK9.out _ _ (fun _ => q0) ?_
  clear hK9 K9
  try simp only [Act.put, List.setIfInBounds_toArray, List.set_cons_zero, List.set_cons_succ]
  refine AnyK.take (i := 3) (v := ?_) rfl (by kernel_rfl) (by kernel_rfl) (by kernel_rfl) (by kernel_rfl) (fun _ _ _ h => h) (Or.inl ⟨by rfl, ?_⟩) (by exact q0) ?_
  rotate_left
  focus
    intro w9 hSw
    try dsimp only at hSw
    go_simp
    try with_reducible rfl
  try simp only [Act.put, List.setIfInBounds_toArray, List.set_cons_zero, List.set_cons_succ]
  refine AnyK.one (i := 4) (by kernel_rfl) rfl (fun K9 hK9 => ?_)
  go_simp
  refine O0.out.mono ?_
  rintro e w' ⟨rfl, hw⟩
  have hw := hw.symm
  subst hw
  refine hK9.out _ _ (fun _ => q0) ?_
  clear hK9 K9
  try simp only [Act.put, List.setIfInBounds_toArray, List.set_cons_zero, List.set_cons_succ]
  refine AnyK.one (i := 5) (by kernel_rfl) rfl (fun K9 hK9 => ?_)
  go_simp
  refine hK9.out _ _ (fun _ => q0) ?_
  clear hK9 K9
  try simp only [Act.put, List.setIfInBounds_toArray, List.set_cons_zero, List.set_cons_succ]
  refine AnyK.one (i := 6) (by kernel_rfl) rfl (fun K9 hK9 => ?_)
  go_simp
  refine hK9.out _ _ (fun _ => q0) ?_
  clear hK9 K9
  try simp only [Act.put, List.setIfInBounds_toArray, List.set_cons_zero, List.set_cons_succ]
  refine AnyK.one (i := 7) (by kernel_rfl) rfl (fun K9 hK9 => ?_)
  go_simp
  refine hK9.out _ _ (fun _ => q0) ?_
  clear hK9 K9
  try simp only [Act.put, List.setIfInBounds_toArray, List.set_cons_zero, List.set_cons_succ]
  refine AnyK.one (i := 8) (by kernel_rfl) rfl (fun K9 hK9 => ?_)
  go_simp
  refine hK9.out _ _ (fun _ => q0) ?_
  clear hK9 K9
  try simp only [Act.put, List.setIfInBounds_toArray, List.set_cons_zero, List.set_cons_succ]
  refine AnyK.take (i := 9) (v := ?_) rfl (by kernel_rfl) (by kernel_rfl) (by kernel_rfl) (by kernel_rfl) (fun _ _ _ h => h) (Or.inl ⟨by rfl, ?_⟩) (by exact q0) ?_
  rotate_left
  focus
    intro w9 hSw
    try dsimp only at hSw
    go_simp
    try with_reducible rfl
  try simp only [Act.put, List.setIfInBounds_toArray, List.set_cons_zero, List.set_cons_succ]
  refine AnyK.one (i := 10) (by kernel_rfl) rfl (fun K9 hK9 => ?_)
  go_simp
  refine ST.out.mono ?_
  rintro e z1 ⟨T1, rfl, H1, a1, a2, a3, a4⟩
  have q1 : z1.cell? ⟨A, 0, none⟩ = some (.slice oa xs.length oc) := (H1.blk 0 rfl).cell 0
  have D1' := Done_h H1 1 (tb := tb) (T := T1) rfl 22 #[] #[.pointer (some ⟨A, 0, none⟩)] a1
  rw [a2] at D1'
  have D1 := Lib.hid D1'
  have N1' := Steps_h H1 1 (tb := tb) (T := T1) rfl
  rw [a4] at N1'
  have N1 := Lib.hid N1'
  have R1 := Lib.hid (HR.out.fr H1.fr (fun _ _ _ (x : nob _) => x))
  have O1 := Lib.hid (Out_some H1 1 (tb := tb) (T := T1) rfl a2 oa xs.length oc a3 xs R1.out HLN.out)
  clear D1' N1'
  refine hK9.out _ _ (fun _ => q1) ?_
  clear hK9 K9
  try simp only [Act.put, List.setIfInBounds_toArray, List.set_cons_zero, List.set_cons_succ]
  refine AnyK.one (i := 11) (by kernel_rfl) rfl (fun K9 hK9 => ?_)
  go_simp
  refine hK9.out _ _ (fun _ => q1) ?_
  clear hK9 K9
  try simp only [Act.put, List.setIfInBounds_toArray, List.set_cons_zero, List.set_cons_succ]
  refine AnyK.one (i := 12) (by kernel_rfl) rfl (fun K9 hK9 => ?_)
  go_simp
  refine hK9.out _ _ (fun _ => q1) ?_
  clear hK9 K9
  try simp only [Act.put, List.setIfInBounds_toArray, List.set_cons_zero, List.set_cons_succ]
  refine AnyK.one (i := 13) (by kernel_rfl) rfl (fun K9 hK9 => ?_)
  go_simp
  refine hK9.out _ _ (fun _ => q1) ?_
  clear hK9 K9
  try simp only [Act.put, List.setIfInBounds_toArray, List.set_cons_zero, List.set_cons_succ]
  refine AnyK.take (i := 14) (v := ?_) rfl (by kernel_rfl) (by kernel_rfl) (by kernel_rfl) (by kernel_rfl) (fun _ _ _ h => h) (Or.inl ⟨by rfl, ?_⟩) (by exact q1) ?_
  rotate_left
  focus
    intro w9 hSw
    try dsimp only at hSw
    go_simp
    try with_reducible rfl
  try simp only [Act.put, List.setIfInBounds_toArray, List.set_cons_zero, List.set_cons_succ]
  refine AnyK.one (i := 15) (by kernel_rfl) rfl (fun K9 hK9 => ?_)
  go_simp
  refine D1.out.mono ?_
  rintro e w' ⟨rfl, hw⟩
  have hw := hw.symm
  subst hw
  refine hK9.out _ _ (fun _ => q1) ?_
  clear hK9 K9
  try simp only [Act.put, List.setIfInBounds_toArray, List.set_cons_zero, List.set_cons_succ]
  refine AnyK.one (i := 16) (by kernel_rfl) rfl (fun K9 hK9 => ?_)
  go_simp
  refine hK9.out _ _ (fun _ => q1) ?_
  clear hK9 K9
  try simp only [Act.put, List.setIfInBounds_toArray, List.set_cons_zero, List.set_cons_succ]
  refine AnyK.one (i := 17) (by kernel_rfl) rfl (fun K9 hK9 => ?_)
  go_simp
  refine hK9.out _ _ (fun _ => q1) ?_
  clear hK9 K9
  try simp only [Act.put, List.setIfInBounds_toArray, List.set_cons_zero, List.set_cons_succ]
  refine AnyK.one (i := 18) (by kernel_rfl) rfl (fun K9 hK9 => ?_)
  go_simp
  refine hK9.out _ _ (fun _ => q1) ?_
  clear hK9 K9
  try simp only [Act.put, List.setIfInBounds_toArray, List.set_cons_zero, List.set_cons_succ]
  refine AnyK.take (i := 19) (v := ?_) rfl (by kernel_rfl) (by kernel_rfl) (by kernel_rfl) (by kernel_rfl) (fun _ _ _ h => h) (Or.inl ⟨by rfl, ?_⟩) (by exact q1) ?_
  rotate_left
  focus
    intro w9 hSw
    try dsimp only at hSw
    go_simp
    try with_reducible rfl
  try simp only [Act.put, List.setIfInBounds_toArray, List.set_cons_zero, List.set_cons_succ]
  refine AnyK.one (i := 20) (by kernel_rfl) rfl (fun K9 hK9 => ?_)
  go_simp
  refine N1.out.mono ?_
  rintro e w' ⟨rfl, hw⟩
  have hw := hw.symm
  subst hw
  refine hK9.out _ _ (fun _ => q1) ?_
  clear hK9 K9
  try simp only [Act.put, List.setIfInBounds_toArray, List.set_cons_zero, List.set_cons_succ]
  refine AnyK.one (i := 21) (by kernel_rfl) rfl (fun K9 hK9 => ?_)
  go_simp
  refine hK9.out _ _ (fun _ => q1) ?_
  clear hK9 K9
  try simp only [Act.put, List.setIfInBounds_toArray, List.set_cons_zero, List.set_cons_succ]
  refine AnyK.one (i := 22) (by kernel_rfl) rfl (fun K9 hK9 => ?_)
  go_simp
  refine hK9.out _ _ (fun _ => q1) ?_
  clear hK9 K9
  try simp only [Act.put, List.setIfInBounds_toArray, List.set_cons_zero, List.set_cons_succ]
  refine AnyK.one (i := 23) (by kernel_rfl) rfl (fun K9 hK9 => ?_)
  go_simp
  refine hK9.out _ _ (fun _ => q1) ?_
  clear hK9 K9
  try simp only [Act.put, List.setIfInBounds_toArray, List.set_cons_zero, List.set_cons_succ]
  refine AnyK.take (i := 24) (v := ?_) rfl (by kernel_rfl) (by kernel_rfl) (by kernel_rfl) (by kernel_rfl) (fun _ _ _ h => h) (Or.inl ⟨by rfl, ?_⟩) (by exact q1) ?_
  rotate_left
  focus
    intro w9 hSw
    try dsimp only at hSw
    go_simp
    try with_reducible rfl
  try simp only [Act.put, List.setIfInBounds_toArray, List.set_cons_zero, List.set_cons_succ]
  refine AnyK.take (i := 26) (v := ?_) rfl (by kernel_rfl) (by kernel_rfl) (by kernel_rfl) (by kernel_rfl) (fun _ _ _ h => h) (Or.inl ⟨by rfl, ?_⟩) (by exact q1) ?_
  rotate_left
  focus
    intro w9 hSw
    try dsimp only at hSw
    go_simp
    try with_reducible rfl
  try simp only [Act.put, List.setIfInBounds_toArray, List.set_cons_zero, List.set_cons_succ]
  refine AnyK.one (i := 25) (by kernel_rfl) rfl (fun K9 hK9 => ?_)
  go_simp
  refine O1.out.mono ?_
  rintro e z2 ⟨o2, c2, rfl, H2⟩
  have q2 : z2.cell? ⟨A, 0, none⟩ = some (.slice oa xs.length oc) := (H2.blk 0 rfl).cell 0
  refine hK9.out _ _ (fun _ => q2) ?_
  clear hK9 K9
  try simp only [Act.put, List.setIfInBounds_toArray, List.set_cons_zero, List.set_cons_succ]
  refine AnyK.one (i := 27) (by kernel_rfl) rfl (fun K9 hK9 => ?_)
  go_simp
  refine (same_yes _ _ xs _ (H2.row 2 rfl).rdv (HR.out.fr H2.fr (fun _ _ _ (x : nob _) => x))).mono ?_
  rintro e z3 ⟨rfl, F3⟩
  have q3 := F3.cell' q2 (fun x => x)
  refine hK9.out _ _ (fun _ => q3) ?_
  clear hK9 K9
  try simp only [Act.put, List.setIfInBounds_toArray, List.set_cons_zero, List.set_cons_succ]
  refine AnyK.one (i := 28) (by kernel_rfl) rfl (fun K9 hK9 => ?_)
  go_simp
  refine hK9.out _ _ (fun _ => q3) ?_
  clear hK9 K9
  try simp only [Act.put, List.setIfInBounds_toArray, List.set_cons_zero, List.set_cons_succ]
  refine AnyK.one (i := 29) (by kernel_rfl) rfl (fun K9 hK9 => ?_)
  go_simp
  refine hK9.out _ _ (fun _ => q3) ?_
  clear hK9 K9
  try simp only [Act.put, List.setIfInBounds_toArray, List.set_cons_zero, List.set_cons_succ]
  refine AnyK.done (by kernel_rfl) ?_ _
  refine NoPanic.normal ?_
  have HQ := Lib.hid (H2.go F3)
  clear H2 F3 q0 q1 q2 q3 D0 O0 ST D1 N1 O1 H1 R1 HD
  go_wp2_with fail
  refine (New_nil HQ.out).mono ?_
  generalize z3.heap.size = tb2 at *
  rintro e z4 ⟨rfl, H5⟩
  have H6 : Heap w (z4.alloc (.cells #[.pointer (some ⟨tb2, 0, none⟩), .pointer none] 29)) [blkP A 26 #[.slice oa xs.length oc], thP tb T1, rowP 2 1 (.slice o2 xs.length c2) xs.length (xs.map (Value.int .i64)), thP tb2 (newTh .nilFunc), blkP z4.heap.size 29 #[.pointer (some ⟨tb2, 0, none⟩), .pointer none]] := H5.alloc 29 #[.pointer (some ⟨tb2, 0, none⟩), .pointer none]
  have HK := Lib.hid H6
  clear H5 H6 HQ
  go_upto_region 10 with fail
  generalize z4.heap.size = K at *
  generalize z4.alloc (.cells #[.pointer (some ⟨tb2, 0, none⟩), .pointer none] 29) = W5 at *
  have y0 : W5.cell? ⟨K, 0, none⟩ = some (.pointer (some ⟨tb2, 0, none⟩)) := (HK.out.blk 4 rfl).cell 0
  have y1 : W5.cell? ⟨K, 1, none⟩ = some (.pointer none) := (HK.out.blk 4 rfl).cell 1
  have DA := Lib.hid (Done_nw HK.out 3 (tb := tb2) (T := newTh .nilFunc) rfl rfl)
  have SA := Lib.hid (Step_nw HK.out 3 (tb := tb2) (T := newTh .nilFunc) rfl rfl)
  have OA := Lib.hid (Out_none HK.out 3 (tb := tb2) (T := newTh .nilFunc) rfl rfl)
  have NA : Hid (Calls Try.prog 16 #[.pointer (some ⟨tb2, 0, none⟩)] W5 fun e w' => e = .returned (.int .i64 0) ∧ w' = W5) := Lib.hid (Steps_h HK.out 3 (tb := tb2) (T := newTh .nilFunc) rfl)
  have HB := Lib.hid HK.out
  go_loopw [48] (fun i wr => ∃ k : Nat, i = .int .i64 (k : Nat) ∧ k ≤ 2 ∧ wr = W5) (fun i _ => 2 - (intOf i).toNat)
  case atStart => exact ⟨0, rfl, Nat.zero_le _, rfl⟩
  case round =>
    obtain ⟨k, rfl, hk, hw⟩ := hrel
    have hw := hw.symm
    subst hw
    rcases (by omega : k = 0 ∨ k = 1 ∨ k = 2) with rfl | rfl | rfl
    · go_wp2_with fail
      refine DA.out.mono ?_
      rintro e w' ⟨rfl, hw⟩
      have hw := hw.symm
      subst hw
      go_wp2_with fail
      refine SA.out.mono ?_
      rintro e w' ⟨rfl, hw⟩
      have hw := hw.symm
      subst hw
      go_wp2_with fail
      refine OA.out.mono ?_
      rintro e w' ⟨rfl, hw⟩
      have hw := hw.symm
      subst hw
      go_wp2_with fail
      refine NA.out.mono ?_
      rintro e w' ⟨rfl, hw⟩
      have hw := hw.symm
      subst hw
      go_wp2_with fail
      exact ⟨⟨1, rfl, by omega, by trivial⟩, by simp [intOf]⟩
    · go_wp2_with fail
      refine (Done_nil _).mono ?_
      rintro e w' ⟨rfl, hw⟩
      have hw := hw.symm
      subst hw
      go_wp2_with fail
      refine (Step_nil _).mono ?_
      rintro e w' ⟨rfl, hw⟩
      have hw := hw.symm
      subst hw
      go_wp2_with fail
      refine (Out_nil _).mono ?_
      rintro e w' ⟨rfl, hw⟩
      have hw := hw.symm
      subst hw
      go_wp2_with fail
      refine (Steps_nil _).mono ?_
      rintro e w' ⟨rfl, hw⟩
      have hw := hw.symm
      subst hw
      go_wp2_with fail
      exact ⟨⟨2, rfl, by omega, by trivial⟩, by simp [intOf]⟩
    · go_wp2_with fail
      refine (Do_nil _ _ _ _).mono ?_
      rintro e w' ⟨rfl, hw⟩
      have hw := hw.symm
      subst hw
      go_wp2_with fail
      refine (Ask_nil _ _ _ _).mono ?_
      rintro e z5 ⟨rfl, F5⟩
      go_wp2_with fail
      go_ret
      exact ⟨rfl, (HB.out.go F5).below⟩
end Go.Proofs.Ytblijgdmfohfcaa
