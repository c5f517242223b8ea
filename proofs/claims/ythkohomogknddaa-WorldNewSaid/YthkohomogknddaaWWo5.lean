/- WorldNew. No condition. -/
import Derived.Test.YthkohomogknddaaWng
import Derived.Test.YthkohomogknddaaHq
import Derived.Test.YthkohomogknddaaUse
import Derived.Deep.DeepCutAuto
import Derived.Deep.CutRange
namespace Go.Proofs.Ythkohomogknddaa
open Go Go.RowKit
set_option linter.unusedVariables false
set_option linter.unusedSimpArgs false
set_option maxRecDepth 100000
theorem look_keep {w0 w : World} {l : List Piece} {a : Nat} {ar : Ar} {r : Int} {nd : Nd} (h : Heap w0 w l) (i : Nat) (hi : l[i]? = some (areP a ar)) (ok : OkAr ar) (hf : ∀ s ∈ ar.slots, s.nd.few) (hl : lookAr r ar = (nd, ar)) :
    Calls Try.prog 38 #[.pointer (some ⟨a, 0, none⟩), .int .i64 r] w fun e w' => ∃ vp vk vn, e = .returned (ndV nd vp vk vn) ∧ Heap w0 w' (l ++ ndL nd vp vk vn) := by
  refine (Look_h h i hi ok hf r).mono ?_
  rintro e w' ⟨vp, vk, vn, h1, h2⟩
  rw [hl] at h1 h2
  have e : l.set i (areP a ar) = l := by
    apply List.ext_getElem?
    intro n
    rw [List.getElem?_set]
    split
    · rename_i hn; subst hn
      rw [hi]; simp [(List.getElem?_eq_some_iff.1 hi).1]
    · rfl
  rw [e] at h2
  exact ⟨vp, vk, vn, h1, h2⟩
theorem share01 (H : World → Nat → Prop) {P : World → Nat → Prop} {G : Prop} (a : (∀ (z : World) (b0 : Nat), H z b0 → P z b0) → G) (b : ∀ (z : World) (b0 : Nat), H z b0 → P z b0) : G := a b
theorem share02 (H : World → Nat → Nat → Prop) {P : World → Nat → Nat → Prop} {G : Prop} (a : (∀ (z : World) (b0 : Nat) (b1 : Nat), H z b0 b1 → P z b0 b1) → G) (b : ∀ (z : World) (b0 : Nat) (b1 : Nat), H z b0 b1 → P z b0 b1) : G := a b
theorem share30 (H : World → Value → Value → Value → Prop) {P : World → Value → Value → Value → Prop} {G : Prop} (a : (∀ (z : World) (v0 : Value) (v1 : Value) (v2 : Value), H z v0 v1 v2 → P z v0 v1 v2) → G) (b : ∀ (z : World) (v0 : Value) (v1 : Value) (v2 : Value), H z v0 v1 v2 → P z v0 v1 v2) : G := a b
theorem share31 (H : World → Value → Value → Value → Nat → Prop) {P : World → Value → Value → Value → Nat → Prop} {G : Prop} (a : (∀ (z : World) (v0 : Value) (v1 : Value) (v2 : Value) (b0 : Nat), H z v0 v1 v2 b0 → P z v0 v1 v2 b0) → G) (b : ∀ (z : World) (v0 : Value) (v1 : Value) (v2 : Value) (b0 : Nat), H z v0 v1 v2 b0 → P z v0 v1 v2 b0) : G := a b
theorem share32 (H : World → Value → Value → Value → Nat → Nat → Prop) {P : World → Value → Value → Value → Nat → Nat → Prop} {G : Prop} (a : (∀ (z : World) (v0 : Value) (v1 : Value) (v2 : Value) (b0 : Nat) (b1 : Nat), H z v0 v1 v2 b0 b1 → P z v0 v1 v2 b0 b1) → G) (b : ∀ (z : World) (v0 : Value) (v1 : Value) (v2 : Value) (b0 : Nat) (b1 : Nat), H z v0 v1 v2 b0 b1 → P z v0 v1 v2 b0 b1) : G := a b
theorem share60 (H : World → Value → Value → Value → Value → Value → Value → Prop) {P : World → Value → Value → Value → Value → Value → Value → Prop} {G : Prop} (a : (∀ (z : World) (v0 : Value) (v1 : Value) (v2 : Value) (v3 : Value) (v4 : Value) (v5 : Value), H z v0 v1 v2 v3 v4 v5 → P z v0 v1 v2 v3 v4 v5) → G) (b : ∀ (z : World) (v0 : Value) (v1 : Value) (v2 : Value) (v3 : Value) (v4 : Value) (v5 : Value), H z v0 v1 v2 v3 v4 v5 → P z v0 v1 v2 v3 v4 v5) : G := a b
theorem share61 (H : World → Value → Value → Value → Value → Value → Value → Nat → Prop) {P : World → Value → Value → Value → Value → Value → Value → Nat → Prop} {G : Prop} (a : (∀ (z : World) (v0 : Value) (v1 : Value) (v2 : Value) (v3 : Value) (v4 : Value) (v5 : Value) (b0 : Nat), H z v0 v1 v2 v3 v4 v5 b0 → P z v0 v1 v2 v3 v4 v5 b0) → G) (b : ∀ (z : World) (v0 : Value) (v1 : Value) (v2 : Value) (v3 : Value) (v4 : Value) (v5 : Value) (b0 : Nat), H z v0 v1 v2 v3 v4 v5 b0 → P z v0 v1 v2 v3 v4 v5 b0) : G := a b
theorem share62 (H : World → Value → Value → Value → Value → Value → Value → Nat → Nat → Prop) {P : World → Value → Value → Value → Value → Value → Value → Nat → Nat → Prop} {G : Prop} (a : (∀ (z : World) (v0 : Value) (v1 : Value) (v2 : Value) (v3 : Value) (v4 : Value) (v5 : Value) (b0 : Nat) (b1 : Nat), H z v0 v1 v2 v3 v4 v5 b0 b1 → P z v0 v1 v2 v3 v4 v5 b0 b1) → G) (b : ∀ (z : World) (v0 : Value) (v1 : Value) (v2 : Value) (v3 : Value) (v4 : Value) (v5 : Value) (b0 : Nat) (b1 : Nat), H z v0 v1 v2 v3 v4 v5 b0 b1 → P z v0 v1 v2 v3 v4 v5 b0 b1) : G := a b
theorem name_ops {P : Program} {md : Region.Mode} {ops : Array Oper} {Q : Exit → Act → World → Prop} {S : World → Prop} {ks : List Nat} {n : Nat} {l : Array Bool} {a : Act} {w : World}
    (h : ∀ (ops' : Array Oper) (Q' : Exit → Act → World → Prop), ops' = ops → Q' = Q → AnyK P md ops' Q' S ks n l a w) : AnyK P md ops Q S ks n l a w := h ops Q rfl rfl
theorem name_w {P : Program} {md : Region.Mode} {ops : Array Oper} {Q : Exit → Act → World → Prop} {S : World → Prop} {ks : List Nat} {n : Nat} {l : Array Bool} {a : Act} {w : World}
    (h : ∀ z : World, z = w → AnyK P md ops Q S ks n l a z) : AnyK P md ops Q S ks n l a w := h w rfl
theorem ready_ops {md : Region.Mode} {ops ops' : Array Oper} {l : Array Bool} {x : List Nat} (h : ops' = ops) (e : Region.ready md ops l = x) : Region.ready md ops' l = x := h ▸ e
theorem get_ops {ops ops' : Array Oper} {i : Nat} {o : Oper} (h : ops' = ops) (e : ops[i]? = some o) : ops'[i]? = some o := h ▸ e
theorem Heap.swapE {w0 w : World} {A B C : List Piece} (h : Heap w0 w (A ++ B ++ C)) : Heap w0 w (A ++ C ++ B) := by
  refine h.idx (fun i => if i < A.length then i else if i < A.length + C.length then i + B.length else i - C.length) (fun i hi => ?_) (fun i j hi hj e => ?_)
  · simp at hi
    by_cases h1 : i < A.length
    · rw [if_pos h1]
      simp only [List.append_assoc]
      rw [List.getElem?_append_left h1, List.getElem?_append_left h1]
    · rw [if_neg h1]
      by_cases h2 : i < A.length + C.length
      · rw [if_pos h2]
        simp only [List.append_assoc]
        rw [List.getElem?_append_right (by omega), List.getElem?_append_left (by omega), List.getElem?_append_right (by omega), List.getElem?_append_right (by omega)]
        congr 1; omega
      · rw [if_neg h2]
        simp only [List.append_assoc]
        rw [List.getElem?_append_right (by omega), List.getElem?_append_right (by omega), List.getElem?_append_right (by omega), List.getElem?_append_left (by omega)]
        congr 1; omega
  · simp at hi hj
    split at e <;> split at e <;> (try split at e) <;> (try split at e) <;> omega
theorem get_set5 {α : Type} {l : List α} {j : Nat} {x : α} (h : l[j]? = some x) (y : α) : (l.set j y)[j]? = some y := List.getElem?_set_self (List.getElem?_eq_some_iff.1 h).1
theorem Heap.put5 {w0 w : World} {l : List Piece} {b : Nat} {t : TypeId} {u0 u1 u2 u3 u4 : Value} (h : Heap w0 w l) (i : Nat) (hi : l[i]? = some (blkP b t #[u0, u1, u2, u3, u4])) (v0 v1 v2 v3 v4 : Value) :
    Heap w0 (((((w.setCell ⟨b, 0, none⟩ v0).setCell ⟨b, 1, none⟩ v1).setCell ⟨b, 2, none⟩ v2).setCell ⟨b, 3, none⟩ v3).setCell ⟨b, 4, none⟩ v4) (l.set i (blkP b t #[v0, v1, v2, v3, v4])) := by
  have h6 := ((((h.setCell i hi 0 v0).setCell i (get_set5 hi _) 1 v1).setCell i (get_set5 (get_set5 hi _) _) 2 v2).setCell i (get_set5 (get_set5 (get_set5 hi _) _) _) 3 v3).setCell i (get_set5 (get_set5 (get_set5 (get_set5 hi _) _) _) _) 4 v4
  simp only [List.set_set] at h6
  exact h6
theorem Heap.pick2 {w0 w : World} {l : List Piece} (h : Heap w0 w l) (m : List Piece) (hl : m.length = 4) (hm : l.take 4 = m) (i j : Nat) {p q : Piece} (hi : l[i]? = some p) (hj : l[j]? = some q) (h4 : 4 ≤ i) (h5 : 4 ≤ j) (hij : i ≠ j) : Heap w0 w (m ++ [p, q]) := by
  subst hm
  refine h.idx (fun k => if k < 4 then k else if k = 4 then i else j) (fun k hk => ?_) (fun a b ha hb e => ?_)
  · simp only [List.length_append, hl, List.length_cons, List.length_nil] at hk
    by_cases hk4 : k < 4
    · rw [List.getElem?_append_left (by omega), if_pos hk4, List.getElem?_take, if_pos hk4]
    · rw [List.getElem?_append_right (by omega), if_neg hk4, hl]
      rcases (by omega : k = 4 ∨ k = 5) with rfl | rfl
      · rw [if_pos rfl, hi]; rfl
      · rw [if_neg (by omega), hj]; rfl
  · simp only [List.length_append, hl, List.length_cons, List.length_nil] at ha hb
    try simp only at e
    split at e <;> split at e <;> (try split at e) <;> (try split at e) <;> omega
theorem newAr_ok {T : Nat} {n r : Int} (hn : 2 ≤ n ∧ n ≤ 65536) : OkAr (newAr2 n) ∧ ∀ s ∈ (newAr2 n).slots, s.nd.few := by
  have ok := ok_new (threads := T) (records := r) hn
  exact ⟨ok.ar.ok (by omega), ok.ar.nds⟩
theorem at_entry (n : Int) : arAt (newAr2 n) entryR = some 1 := by
  unfold arAt
  have e : entryR % 1099511627776 - 1 = 1 := by decide
  simp only [e]
  rw [if_pos]
  · rfl
  · refine ⟨by omega, by simp [newAr2], rfl, ?_⟩
    show refOf 1 1 = entryR
    decide
theorem at_root (n : Int) : arAt (newAr2 n) (refOf 0 1) = some 0 := by
  unfold arAt
  have e : refOf 0 1 % 1099511627776 - 1 = 0 := by decide
  simp only [e]
  rw [if_pos]
  · rfl
  · refine ⟨by omega, by simp [newAr2], rfl, ?_⟩
    show refOf 0 1 = refOf 0 1
    rfl
theorem look_entry (n : Int) : lookAr entryR (newAr2 n) = (entryNd, newAr2 n) := by
  unfold lookAr; rw [at_entry]; rfl
theorem look_root (n : Int) : lookAr (refOf 0 1) (newAr2 n) = (rootNd, newAr2 n) := by
  unfold lookAr; rw [at_root]; rfl
theorem way_entry (n : Int) : wayAr entryR 0 (newAr2 n) = (refOf 0 1, newAr2 n) := by
  unfold wayAr; rw [at_entry]; rfl
theorem Look1 {w0 w : World} {l : List Piece} {n : Int} (c : Wc) (hce : c.entry = entryR) (hn : 2 ≤ n ∧ n ≤ 65536) (h : Heap w0 w l) (hi : l[1]? = some (areP c.ab (newAr2 n))) :
    Calls Try.prog 38 #[.pointer (some ⟨c.ab, 0, none⟩), .int .i64 c.entry] w fun e w' => ∃ vp vk vn, e = .returned (.agg #[.bool true, .bool false, vp, vk, vn]) ∧ Heap w0 w' (l ++ ndL entryNd vp vk vn) := by
  rw [hce]
  exact look_keep h 1 hi (newAr_ok (T := 0) (r := 0) hn).1 (newAr_ok (T := 0) (r := 0) hn).2 (look_entry n)
theorem Look2 {w0 w : World} {l : List Piece} {n : Int} (c : Wc) (hce : c.entry = entryR) (hn : 2 ≤ n ∧ n ≤ 65536) (h : Heap w0 w l) (hi : l[1]? = some (areP c.ab (newAr2 n))) :
    Calls Try.prog 38 #[.pointer (some ⟨c.ab, 0, none⟩), .int .i64 (refOf 0 1)] w fun e w' => ∃ vp vk vn, e = .returned (.agg #[.bool false, .bool false, vp, vk, vn]) ∧ Heap w0 w' (l ++ ndL rootNd vp vk vn) :=
  look_keep h 1 hi (newAr_ok (T := 0) (r := 0) hn).1 (newAr_ok (T := 0) (r := 0) hn).2 (look_root n)
set_option maxHeartbeats 400000000 in
theorem WorldNew_good {a b t n r : Int} (hg : GoodNew a b t n r) (w : World) :
    Calls Try.prog 9 #[.int .i64 a, .int .i64 b, .int .i64 t, .int .i64 n, .int .i64 r] w fun e w' => e = .returned (.bool true) ∧ Below w.heap.size w w' := by
  obtain ⟨⟨h1, h2⟩, ⟨h3, h4⟩, ⟨h5, h6⟩, ⟨h7, h8⟩, h9, h10⟩ := hg
  obtain ⟨T, hT⟩ : ∃ T : Nat, t = (T : Int) := ⟨t.toNat, by omega⟩
  subst hT
  go_enter Try.func9, Try.ntmps9
  go_wp2_with fail
  refine (Awake_calls w).mono ?_
  rintro e w1 ⟨rfl, F1⟩
  have CS := Lib.hid (New_wd ((Heap.start w).go F1) a b T n r ⟨h1, h2⟩ ⟨h3, h4⟩ ⟨h5, h6⟩ ⟨h7, h8⟩ ⟨h9, h10⟩)
  clear F1
  go_wp2_with fail
  refine CS.out.mono ?_
  rintro e w2 ⟨c, hca, hcb, hce, rfl, H⟩
  clear CS
  have H : Heap w w2 (wdL c (wd0 T n r) ++ []) := by rw [List.append_nil]; exact H
  obtain ⟨v0, v1, v2, v3, v4, v5⟩ := wdL_cells H
  have HH := Lib.hid H
  have HCE := Lib.hid hce
  rw [hca] at v3
  rw [hcb] at v4
  rw [hce] at v5
  clear H hce
  go_upto_region 6 with fail
  go_cut [102] from 73 to 102 (fun s102 wx => s102 = .bool false ∧ ∃ k, wx = w2.drewN k)
  case first =>
    go_quiet ((first | (go_at_call 46; exact Calls.quiet_of_same (Of_calls 1 1 _ (by omega) (by omega)))))
    go_wp2_with fail
    go_meet
    exact ⟨rfl, _, rfl⟩
  case rest =>
  obtain ⟨rfl, nq, hwx⟩ := hcut
  have H6 := HH.out.drewN nq
  rw [← hwx] at H6
  clear hwx
  rename World => w3
  clear HH v0 v1 v2 v3 v4 v5
  obtain ⟨v0, v1, v2, v3, v4, v5⟩ := wdL_cells H6
  have HH := Lib.hid H6
  clear H6
  go_upto_region 8 with fail
  go_cut [13, 14] from 103 to 117 (fun s13 s14 wx => ∃ (b1 b2 : Nat) (ap1 : Option Addr) (cp1 : Nat) (ak1 : Option Addr) (ck1 : Nat) (an1 : Option Addr) (cn1 : Nat) (ap2 : Option Addr) (cp2 : Nat) (ak2 : Option Addr) (ck2 : Nat) (an2 : Option Addr) (cn2 : Nat), s13 = .pointer (some ⟨b1, 0, none⟩) ∧ s14 = .pointer (some ⟨b2, 0, none⟩) ∧ Hid (Heap w wx (wdL c (wd0 T n r) ++ [blkP b1 58 #[.bool true, .bool false, .slice ap1 0 cp1, .slice ak1 0 ck1, .slice an1 1 cn1], blkP b2 58 #[.bool false, .bool false, .slice ap2 0 cp2, .slice ak2 0 ck2, .slice an2 0 cn2]])))
  case first =>
    have q0 : w3.drew.cell? ⟨c.wb, 0, none⟩ = some (.pointer (some ⟨c.ab, 0, none⟩)) ∧ w3.drew.cell? ⟨c.wb, 5, none⟩ = some (.int .i64 c.entry) := ⟨v0, v5⟩
    clear v1 v2 v3 v4
    have HZ : Hid (Heap w w3.drew (wdL c (wd0 T n r))) := Lib.hid (by have := HH.out.drew; rwa [List.append_nil] at this)
    refine wp_region_noPanic ?_
    refine AnyK.start (ks := [17, 18]) (S := fun w' => w'.cell? ⟨c.wb, 0, none⟩ = some (.pointer (some ⟨c.ab, 0, none⟩)) ∧ w'.cell? ⟨c.wb, 5, none⟩ = some (.int .i64 c.entry)) (by kernel_rfl) (by exact q0) (fun _ => ?_)
    refine AnyK.takeB (i := 0) (v := ?_) rfl (by kernel_rfl) (by kernel_rfl) (by kernel_rfl) (by kernel_rfl) (fun _ _ _ h => h) (Or.inl ⟨by rfl, ?_⟩) (by exact q0) ?_
    rotate_left
    focus
      intro w9 hSw
      try dsimp only at hSw
      go_simp
      try with_reducible rfl
    try simp only [Act.put, List.setIfInBounds_toArray, List.set_cons_zero, List.set_cons_succ]
    refine AnyK.takeB (i := 1) (v := ?_) rfl (by kernel_rfl) (by kernel_rfl) (by kernel_rfl) (by kernel_rfl) (fun _ _ _ h => h) (Or.inl ⟨by rfl, ?_⟩) (by exact q0) ?_
    rotate_left
    focus
      intro w9 hSw
      try dsimp only at hSw
      go_simp
      try with_reducible rfl
    try simp only [Act.put, List.setIfInBounds_toArray, List.set_cons_zero, List.set_cons_succ]
    refine AnyK.takeB (i := 2) (v := ?_) rfl (by kernel_rfl) (by kernel_rfl) (by kernel_rfl) (by kernel_rfl) (fun _ _ _ h => h) (Or.inl ⟨by rfl, ?_⟩) (by exact q0) ?_
    rotate_left
    focus
      intro w9 hSw
      try dsimp only at hSw
      go_simp
      try with_reducible rfl
    try simp only [Act.put, List.setIfInBounds_toArray, List.set_cons_zero, List.set_cons_succ]
    refine AnyK.takeB (i := 3) (v := ?_) rfl (by kernel_rfl) (by kernel_rfl) (by kernel_rfl) (by kernel_rfl) (fun _ _ _ h => h) (Or.inl ⟨by rfl, ?_⟩) (by exact q0) ?_
    rotate_left
    focus
      intro w9 hSw
      try dsimp only at hSw
      go_simp
      try with_reducible rfl
    try simp only [Act.put, List.setIfInBounds_toArray, List.set_cons_zero, List.set_cons_succ]
    refine AnyK.takeB (i := 4) (v := ?_) rfl (by kernel_rfl) (by kernel_rfl) (by kernel_rfl) (by kernel_rfl) (fun _ _ _ h => h) (Or.inl ⟨by rfl, ?_⟩) (by exact q0) ?_
    rotate_left
    focus
      intro w9 hSw
      try dsimp only at hSw
      go_simp
      try with_reducible rfl
    try simp only [Act.put, List.setIfInBounds_toArray, List.set_cons_zero, List.set_cons_succ]
    refine AnyK.takeB (i := 5) (v := ?_) rfl (by kernel_rfl) (by kernel_rfl) (by kernel_rfl) (by kernel_rfl) (fun _ _ _ h => h) (Or.inl ⟨by rfl, ?_⟩) (by exact q0) ?_
    rotate_left
    focus
      intro w9 hSw
      try dsimp only at hSw
      go_simp
      try with_reducible rfl
    try simp only [Act.put, List.setIfInBounds_toArray, List.set_cons_zero, List.set_cons_succ]
    refine AnyK.takeB (i := 6) (v := ?_) rfl (by kernel_rfl) (by kernel_rfl) (by kernel_rfl) (by kernel_rfl) (fun _ _ _ h => h) (Or.inl ⟨by rfl, ?_⟩) (by exact q0) ?_
    rotate_left
    focus
      intro w9 hSw
      try dsimp only at hSw
      go_simp
      try with_reducible rfl
    try simp only [Act.put, List.setIfInBounds_toArray, List.set_cons_zero, List.set_cons_succ]
    refine AnyK.takeB (i := 7) (v := ?_) rfl (by kernel_rfl) (by kernel_rfl) (by kernel_rfl) (by kernel_rfl) (fun _ _ _ h => h) (Or.inl ⟨by rfl, ?_⟩) (by exact q0) ?_
    rotate_left
    focus
      intro w9 hSw
      try dsimp only at hSw
      go_simp
      try with_reducible rfl
    try simp only [Act.put, List.setIfInBounds_toArray, List.set_cons_zero, List.set_cons_succ]
    refine AnyK.takeB (i := 9) (v := ?_) rfl (by kernel_rfl) (by kernel_rfl) (by kernel_rfl) (by kernel_rfl) (fun _ _ _ h => h) (Or.inl ⟨by rfl, ?_⟩) (by exact q0) ?_
    rotate_left
    focus
      intro w9 hSw
      try dsimp only at hSw
      go_simp
      try with_reducible rfl
    try simp only [Act.put, List.setIfInBounds_toArray, List.set_cons_zero, List.set_cons_succ]
    refine AnyK.takeB (i := 10) (v := ?_) rfl (by kernel_rfl) (by kernel_rfl) (by kernel_rfl) (by kernel_rfl) (fun _ _ _ h => h) (Or.inl ⟨by rfl, ?_⟩) (by exact q0) ?_
    rotate_left
    focus
      intro w9 hSw
      try dsimp only at hSw
      go_simp
      try with_reducible rfl
    try simp only [Act.put, List.setIfInBounds_toArray, List.set_cons_zero, List.set_cons_succ]
    refine AnyK.takeB (i := 11) (v := ?_) rfl (by kernel_rfl) (by kernel_rfl) (by kernel_rfl) (by kernel_rfl) (fun _ _ _ h => h) (Or.inl ⟨by rfl, ?_⟩) (by exact q0) ?_
    rotate_left
    focus
      intro w9 hSw
      try dsimp only at hSw
      go_simp
      try with_reducible rfl
    try simp only [Act.put, List.setIfInBounds_toArray, List.set_cons_zero, List.set_cons_succ]
    refine AnyK.takeB (i := 12) (v := ?_) rfl (by kernel_rfl) (by kernel_rfl) (by kernel_rfl) (by kernel_rfl) (fun _ _ _ h => h) (Or.inl ⟨by rfl, ?_⟩) (by exact q0) ?_
    rotate_left
    focus
      intro w9 hSw
      try dsimp only at hSw
      go_simp
      try with_reducible rfl
    try simp only [Act.put, List.setIfInBounds_toArray, List.set_cons_zero, List.set_cons_succ]
    clear q0
    refine name_ops (fun ops9 Q9 hops hQ9 => ?_)
    refine name_w (fun z0 hz0 => ?_)
    rw [← hz0] at HZ
    clear hz0
    apply share62 (fun z9 vp1 vk1 vn1 vp2 vk2 vn2 b1 b2 => Hid (Heap w z9 ((wdL c (wd0 T n r)) ++ (ndL entryNd vp1 vk1 vn1) ++ (ndL rootNd vp2 vk2 vn2) ++ ([blkP b1 58 #[.bool false, .bool false, .slice none 0 0, .slice none 0 0, .slice none 0 0]]) ++ ([blkP b2 58 #[.bool false, .bool false, .slice none 0 0, .slice none 0 0, .slice none 0 0]]))))
    case a =>
      intro LL9
      have L311 := Lib.hid LL9
      clear LL9
      apply share32 (fun z9 vp1 vk1 vn1 b1 b2 => Hid (Heap w z9 ((wdL c (wd0 T n r)) ++ (ndL entryNd vp1 vk1 vn1) ++ ([blkP b1 58 #[.bool false, .bool false, .slice none 0 0, .slice none 0 0, .slice none 0 0]]) ++ ([blkP b2 58 #[.bool false, .bool false, .slice none 0 0, .slice none 0 0, .slice none 0 0]]))))
      case a =>
        intro LL9
        have L211 := Lib.hid LL9
        clear LL9
        apply share61 (fun z9 vp1 vk1 vn1 vp2 vk2 vn2 b2 => Hid (Heap w z9 ((wdL c (wd0 T n r)) ++ (ndL entryNd vp1 vk1 vn1) ++ (ndL rootNd vp2 vk2 vn2) ++ ([blkP b2 58 #[.bool false, .bool false, .slice none 0 0, .slice none 0 0, .slice none 0 0]]))))
        case a =>
          intro LL9
          have L301 := Lib.hid LL9
          clear LL9
          apply share61 (fun z9 vp1 vk1 vn1 vp2 vk2 vn2 b1 => Hid (Heap w z9 ((wdL c (wd0 T n r)) ++ (ndL entryNd vp1 vk1 vn1) ++ (ndL rootNd vp2 vk2 vn2) ++ ([blkP b1 58 #[.bool false, .bool false, .slice none 0 0, .slice none 0 0, .slice none 0 0]]))))
          case a =>
            intro LL9
            have L310 := Lib.hid LL9
            clear LL9
            apply share32 (fun z9 vp1 vk1 vn1 b1 b2 => Hid (Heap w z9 ((wdL c (wd0 T n r)) ++ (ndL entryNd vp1 vk1 vn1) ++ ([blkP b1 58 #[.bool false, .bool false, .slice none 0 0, .slice none 0 0, .slice none 0 0]]) ++ ([blkP b2 58 #[.bool false, .bool false, .slice none 0 0, .slice none 0 0, .slice none 0 0]]))))
            case a =>
              intro LL9
              have L111 := Lib.hid LL9
              clear LL9
              apply share31 (fun z9 vp1 vk1 vn1 b2 => Hid (Heap w z9 ((wdL c (wd0 T n r)) ++ (ndL entryNd vp1 vk1 vn1) ++ ([blkP b2 58 #[.bool false, .bool false, .slice none 0 0, .slice none 0 0, .slice none 0 0]]))))
              case a =>
                intro LL9
                have L201 := Lib.hid LL9
                clear LL9
                apply share31 (fun z9 vp1 vk1 vn1 b1 => Hid (Heap w z9 ((wdL c (wd0 T n r)) ++ (ndL entryNd vp1 vk1 vn1) ++ ([blkP b1 58 #[.bool false, .bool false, .slice none 0 0, .slice none 0 0, .slice none 0 0]]))))
                case a =>
                  intro LL9
                  have L210 := Lib.hid LL9
                  clear LL9
                  apply share60 (fun z9 vp1 vk1 vn1 vp2 vk2 vn2 => Hid (Heap w z9 ((wdL c (wd0 T n r)) ++ (ndL entryNd vp1 vk1 vn1) ++ (ndL rootNd vp2 vk2 vn2))))
                  case a =>
                    intro LL9
                    have L300 := Lib.hid LL9
                    clear LL9
                    apply share02 (fun z9 b1 b2 => Hid (Heap w z9 ((wdL c (wd0 T n r)) ++ ([blkP b1 58 #[.bool false, .bool false, .slice none 0 0, .slice none 0 0, .slice none 0 0]]) ++ ([blkP b2 58 #[.bool false, .bool false, .slice none 0 0, .slice none 0 0, .slice none 0 0]]))))
                    case a =>
                      intro LL9
                      have L011 := Lib.hid LL9
                      clear LL9
                      apply share31 (fun z9 vp1 vk1 vn1 b2 => Hid (Heap w z9 ((wdL c (wd0 T n r)) ++ (ndL entryNd vp1 vk1 vn1) ++ ([blkP b2 58 #[.bool false, .bool false, .slice none 0 0, .slice none 0 0, .slice none 0 0]]))))
                      case a =>
                        intro LL9
                        have L101 := Lib.hid LL9
                        clear LL9
                        apply share31 (fun z9 vp1 vk1 vn1 b1 => Hid (Heap w z9 ((wdL c (wd0 T n r)) ++ (ndL entryNd vp1 vk1 vn1) ++ ([blkP b1 58 #[.bool false, .bool false, .slice none 0 0, .slice none 0 0, .slice none 0 0]]))))
                        case a =>
                          intro LL9
                          have L110 := Lib.hid LL9
                          clear LL9
                          apply share30 (fun z9 vp1 vk1 vn1 => Hid (Heap w z9 ((wdL c (wd0 T n r)) ++ (ndL entryNd vp1 vk1 vn1))))
                          case a =>
                            intro LL9
                            have L200 := Lib.hid LL9
                            clear LL9
                            apply share01 (fun z9 b2 => Hid (Heap w z9 ((wdL c (wd0 T n r)) ++ ([blkP b2 58 #[.bool false, .bool false, .slice none 0 0, .slice none 0 0, .slice none 0 0]]))))
                            case a =>
                              intro LL9
                              have L001 := Lib.hid LL9
                              clear LL9
                              apply share01 (fun z9 b1 => Hid (Heap w z9 ((wdL c (wd0 T n r)) ++ ([blkP b1 58 #[.bool false, .bool false, .slice none 0 0, .slice none 0 0, .slice none 0 0]]))))
                              case a =>
                                intro LL9
                                have L010 := Lib.hid LL9
                                clear LL9
                                apply share30 (fun z9 vp1 vk1 vn1 => Hid (Heap w z9 ((wdL c (wd0 T n r)) ++ (ndL entryNd vp1 vk1 vn1))))
                                case a =>
                                  intro LL9
                                  have L100 := Lib.hid LL9
                                  clear LL9
                                  refine AnyK.three (i := 8) (j := 15) (m := 16) (ready_ops hops (by kernel_rfl)) (get_ops hops rfl) (get_ops hops rfl) (get_ops hops rfl) (fun K9 hK9 => ?_) (fun K9 hK9 => ?_) (fun K9 hK9 => ?_)
                                  · go_simp
                                    refine (Look1 c HCE.out ⟨h7, h8⟩ HZ.out (by rfl)).mono ?_
                                    rintro e y1 ⟨vp1, vk1, vn1, rfl, H9⟩
                                    have H9 : Heap w y1 ((wdL c (wd0 T n r)) ++ (ndL entryNd vp1 vk1 vn1)) := H9
                                    have BW := H9.blk 0 (b := c.wb) (t := 31) (c := #[.pointer (some ⟨c.ab, 0, none⟩), .pointer (some ⟨c.rb, 0, none⟩), .pointer (some ⟨c.eb, 0, none⟩), .int .i64 c.a, .int .i64 c.b, .int .i64 c.entry]) (by rfl)
                                    have qs := And.intro (BW.cell 0) (BW.cell 5)
                                    clear BW
                                    refine hK9.out _ _ (fun _ => qs) ?_
                                    clear hK9 K9 qs
                                    try simp only [Act.put, List.setIfInBounds_toArray, List.set_cons_zero, List.set_cons_succ]
                                    exact L100.out y1 vp1 vk1 vn1 (Lib.hid H9)
                                  · go_simp
                                    have H9 := HZ.out.alloc 58 #[.bool false, .bool false, .slice none 0 0, .slice none 0 0, .slice none 0 0]
                                    generalize z0.heap.size = b1 at H9 hK9 ⊢
                                    generalize z0.alloc (.cells #[.bool false, .bool false, .slice none 0 0, .slice none 0 0, .slice none 0 0] 58) = x1 at H9 hK9 ⊢
                                    have H9 : Heap w x1 ((wdL c (wd0 T n r)) ++ ([blkP b1 58 #[.bool false, .bool false, .slice none 0 0, .slice none 0 0, .slice none 0 0]])) := H9
                                    have BW := H9.blk 0 (b := c.wb) (t := 31) (c := #[.pointer (some ⟨c.ab, 0, none⟩), .pointer (some ⟨c.rb, 0, none⟩), .pointer (some ⟨c.eb, 0, none⟩), .int .i64 c.a, .int .i64 c.b, .int .i64 c.entry]) (by rfl)
                                    have qs := And.intro (BW.cell 0) (BW.cell 5)
                                    clear BW
                                    refine hK9.out _ _ (fun _ => qs) ?_
                                    clear hK9 K9 qs
                                    try simp only [Act.put, List.setIfInBounds_toArray, List.set_cons_zero, List.set_cons_succ]
                                    exact L010.out x1 b1 (Lib.hid H9)
                                  · go_simp
                                    have H9 := HZ.out.alloc 58 #[.bool false, .bool false, .slice none 0 0, .slice none 0 0, .slice none 0 0]
                                    generalize z0.heap.size = b2 at H9 hK9 ⊢
                                    generalize z0.alloc (.cells #[.bool false, .bool false, .slice none 0 0, .slice none 0 0, .slice none 0 0] 58) = x2 at H9 hK9 ⊢
                                    have H9 : Heap w x2 ((wdL c (wd0 T n r)) ++ ([blkP b2 58 #[.bool false, .bool false, .slice none 0 0, .slice none 0 0, .slice none 0 0]])) := H9
                                    have BW := H9.blk 0 (b := c.wb) (t := 31) (c := #[.pointer (some ⟨c.ab, 0, none⟩), .pointer (some ⟨c.rb, 0, none⟩), .pointer (some ⟨c.eb, 0, none⟩), .int .i64 c.a, .int .i64 c.b, .int .i64 c.entry]) (by rfl)
                                    have qs := And.intro (BW.cell 0) (BW.cell 5)
                                    clear BW
                                    refine hK9.out _ _ (fun _ => qs) ?_
                                    clear hK9 K9 qs
                                    try simp only [Act.put, List.setIfInBounds_toArray, List.set_cons_zero, List.set_cons_succ]
                                    exact L001.out x2 b2 (Lib.hid H9)
                                case b =>
                                  intro z9 vp1 vk1 vn1 HL9
                                  try clear L311
                                  try clear L211
                                  try clear L301
                                  try clear L310
                                  try clear L111
                                  try clear L201
                                  try clear L210
                                  try clear L300
                                  try clear L011
                                  try clear L001
                                  try clear L010
                                  refine AnyK.three (i := 13) (j := 15) (m := 16) (ready_ops hops (by kernel_rfl)) (get_ops hops rfl) (get_ops hops rfl) (get_ops hops rfl) (fun K9 hK9 => ?_) (fun K9 hK9 => ?_) (fun K9 hK9 => ?_)
                                  · go_simp
                                    refine (Of_calls 0 1 _ (by omega) (by omega)).mono ?_
                                    rintro e y ⟨rfl, hy⟩
                                    have hy := hy.symm
                                    subst hy
                                    have BW := HL9.out.blk 0 (b := c.wb) (t := 31) (c := #[.pointer (some ⟨c.ab, 0, none⟩), .pointer (some ⟨c.rb, 0, none⟩), .pointer (some ⟨c.eb, 0, none⟩), .int .i64 c.a, .int .i64 c.b, .int .i64 c.entry]) (by rfl)
                                    have qs := And.intro (BW.cell 0) (BW.cell 5)
                                    clear BW
                                    refine hK9.out _ _ (fun _ => qs) ?_
                                    clear hK9 K9 qs
                                    try simp only [Act.put, List.setIfInBounds_toArray, List.set_cons_zero, List.set_cons_succ]
                                    exact L200.out z9 vp1 vk1 vn1 HL9
                                  · go_simp
                                    have H9 := HL9.out.alloc 58 #[.bool false, .bool false, .slice none 0 0, .slice none 0 0, .slice none 0 0]
                                    generalize z9.heap.size = b1 at H9 hK9 ⊢
                                    generalize z9.alloc (.cells #[.bool false, .bool false, .slice none 0 0, .slice none 0 0, .slice none 0 0] 58) = x1 at H9 hK9 ⊢
                                    have H9 : Heap w x1 ((wdL c (wd0 T n r)) ++ (ndL entryNd vp1 vk1 vn1) ++ ([blkP b1 58 #[.bool false, .bool false, .slice none 0 0, .slice none 0 0, .slice none 0 0]])) := H9
                                    have BW := H9.blk 0 (b := c.wb) (t := 31) (c := #[.pointer (some ⟨c.ab, 0, none⟩), .pointer (some ⟨c.rb, 0, none⟩), .pointer (some ⟨c.eb, 0, none⟩), .int .i64 c.a, .int .i64 c.b, .int .i64 c.entry]) (by rfl)
                                    have qs := And.intro (BW.cell 0) (BW.cell 5)
                                    clear BW
                                    refine hK9.out _ _ (fun _ => qs) ?_
                                    clear hK9 K9 qs
                                    try simp only [Act.put, List.setIfInBounds_toArray, List.set_cons_zero, List.set_cons_succ]
                                    exact L110.out x1 vp1 vk1 vn1 b1 (Lib.hid H9)
                                  · go_simp
                                    have H9 := HL9.out.alloc 58 #[.bool false, .bool false, .slice none 0 0, .slice none 0 0, .slice none 0 0]
                                    generalize z9.heap.size = b2 at H9 hK9 ⊢
                                    generalize z9.alloc (.cells #[.bool false, .bool false, .slice none 0 0, .slice none 0 0, .slice none 0 0] 58) = x2 at H9 hK9 ⊢
                                    have H9 : Heap w x2 ((wdL c (wd0 T n r)) ++ (ndL entryNd vp1 vk1 vn1) ++ ([blkP b2 58 #[.bool false, .bool false, .slice none 0 0, .slice none 0 0, .slice none 0 0]])) := H9
                                    have BW := H9.blk 0 (b := c.wb) (t := 31) (c := #[.pointer (some ⟨c.ab, 0, none⟩), .pointer (some ⟨c.rb, 0, none⟩), .pointer (some ⟨c.eb, 0, none⟩), .int .i64 c.a, .int .i64 c.b, .int .i64 c.entry]) (by rfl)
                                    have qs := And.intro (BW.cell 0) (BW.cell 5)
                                    clear BW
                                    refine hK9.out _ _ (fun _ => qs) ?_
                                    clear hK9 K9 qs
                                    try simp only [Act.put, List.setIfInBounds_toArray, List.set_cons_zero, List.set_cons_succ]
                                    exact L101.out x2 vp1 vk1 vn1 b2 (Lib.hid H9)
                              case b =>
                                intro z9 b1 HL9
                                try clear L311
                                try clear L211
                                try clear L301
                                try clear L310
                                try clear L111
                                try clear L201
                                try clear L210
                                try clear L300
                                try clear L101
                                try clear L200
                                try clear L001
                                refine AnyK.two (i := 8) (j := 16) (ready_ops hops (by kernel_rfl)) (get_ops hops rfl) (get_ops hops rfl) (fun K9 hK9 => ?_) (fun K9 hK9 => ?_)
                                · go_simp
                                  refine (Look1 c HCE.out ⟨h7, h8⟩ HL9.out (by rfl)).mono ?_
                                  rintro e y1 ⟨vp1, vk1, vn1, rfl, H9⟩
                                  have H9 : Heap w y1 (((wdL c (wd0 T n r))) ++ (([blkP b1 58 #[.bool false, .bool false, .slice none 0 0, .slice none 0 0, .slice none 0 0]])) ++ (ndL entryNd vp1 vk1 vn1)) := H9
                                  have H9 := H9.swapE
                                  have H9 : Heap w y1 ((wdL c (wd0 T n r)) ++ (ndL entryNd vp1 vk1 vn1) ++ ([blkP b1 58 #[.bool false, .bool false, .slice none 0 0, .slice none 0 0, .slice none 0 0]])) := H9
                                  have BW := H9.blk 0 (b := c.wb) (t := 31) (c := #[.pointer (some ⟨c.ab, 0, none⟩), .pointer (some ⟨c.rb, 0, none⟩), .pointer (some ⟨c.eb, 0, none⟩), .int .i64 c.a, .int .i64 c.b, .int .i64 c.entry]) (by rfl)
                                  have qs := And.intro (BW.cell 0) (BW.cell 5)
                                  clear BW
                                  refine hK9.out _ _ (fun _ => qs) ?_
                                  clear hK9 K9 qs
                                  try simp only [Act.put, List.setIfInBounds_toArray, List.set_cons_zero, List.set_cons_succ]
                                  exact L110.out y1 vp1 vk1 vn1 b1 (Lib.hid H9)
                                · go_simp
                                  have H9 := HL9.out.alloc 58 #[.bool false, .bool false, .slice none 0 0, .slice none 0 0, .slice none 0 0]
                                  generalize z9.heap.size = b2 at H9 hK9 ⊢
                                  generalize z9.alloc (.cells #[.bool false, .bool false, .slice none 0 0, .slice none 0 0, .slice none 0 0] 58) = x2 at H9 hK9 ⊢
                                  have H9 : Heap w x2 ((wdL c (wd0 T n r)) ++ ([blkP b1 58 #[.bool false, .bool false, .slice none 0 0, .slice none 0 0, .slice none 0 0]]) ++ ([blkP b2 58 #[.bool false, .bool false, .slice none 0 0, .slice none 0 0, .slice none 0 0]])) := H9
                                  have BW := H9.blk 0 (b := c.wb) (t := 31) (c := #[.pointer (some ⟨c.ab, 0, none⟩), .pointer (some ⟨c.rb, 0, none⟩), .pointer (some ⟨c.eb, 0, none⟩), .int .i64 c.a, .int .i64 c.b, .int .i64 c.entry]) (by rfl)
                                  have qs := And.intro (BW.cell 0) (BW.cell 5)
                                  clear BW
                                  refine hK9.out _ _ (fun _ => qs) ?_
                                  clear hK9 K9 qs
                                  try simp only [Act.put, List.setIfInBounds_toArray, List.set_cons_zero, List.set_cons_succ]
                                  exact L011.out x2 b1 b2 (Lib.hid H9)
                            case b =>
                              intro z9 b2 HL9
                              try clear L311
                              try clear L211
                              try clear L301
                              try clear L310
                              try clear L111
                              try clear L201
                              try clear L210
                              try clear L300
                              try clear L110
                              try clear L200
                              refine AnyK.two (i := 8) (j := 15) (ready_ops hops (by kernel_rfl)) (get_ops hops rfl) (get_ops hops rfl) (fun K9 hK9 => ?_) (fun K9 hK9 => ?_)
                              · go_simp
                                refine (Look1 c HCE.out ⟨h7, h8⟩ HL9.out (by rfl)).mono ?_
                                rintro e y1 ⟨vp1, vk1, vn1, rfl, H9⟩
                                have H9 : Heap w y1 (((wdL c (wd0 T n r))) ++ (([blkP b2 58 #[.bool false, .bool false, .slice none 0 0, .slice none 0 0, .slice none 0 0]])) ++ (ndL entryNd vp1 vk1 vn1)) := H9
                                have H9 := H9.swapE
                                have H9 : Heap w y1 ((wdL c (wd0 T n r)) ++ (ndL entryNd vp1 vk1 vn1) ++ ([blkP b2 58 #[.bool false, .bool false, .slice none 0 0, .slice none 0 0, .slice none 0 0]])) := H9
                                have BW := H9.blk 0 (b := c.wb) (t := 31) (c := #[.pointer (some ⟨c.ab, 0, none⟩), .pointer (some ⟨c.rb, 0, none⟩), .pointer (some ⟨c.eb, 0, none⟩), .int .i64 c.a, .int .i64 c.b, .int .i64 c.entry]) (by rfl)
                                have qs := And.intro (BW.cell 0) (BW.cell 5)
                                clear BW
                                refine hK9.out _ _ (fun _ => qs) ?_
                                clear hK9 K9 qs
                                try simp only [Act.put, List.setIfInBounds_toArray, List.set_cons_zero, List.set_cons_succ]
                                exact L101.out y1 vp1 vk1 vn1 b2 (Lib.hid H9)
                              · go_simp
                                have H9 := HL9.out.alloc 58 #[.bool false, .bool false, .slice none 0 0, .slice none 0 0, .slice none 0 0]
                                generalize z9.heap.size = b1 at H9 hK9 ⊢
                                generalize z9.alloc (.cells #[.bool false, .bool false, .slice none 0 0, .slice none 0 0, .slice none 0 0] 58) = x1 at H9 hK9 ⊢
                                have H9 : Heap w x1 (((wdL c (wd0 T n r))) ++ (([blkP b2 58 #[.bool false, .bool false, .slice none 0 0, .slice none 0 0, .slice none 0 0]])) ++ ([blkP b1 58 #[.bool false, .bool false, .slice none 0 0, .slice none 0 0, .slice none 0 0]])) := H9
                                have H9 := H9.swapE
                                have H9 : Heap w x1 ((wdL c (wd0 T n r)) ++ ([blkP b1 58 #[.bool false, .bool false, .slice none 0 0, .slice none 0 0, .slice none 0 0]]) ++ ([blkP b2 58 #[.bool false, .bool false, .slice none 0 0, .slice none 0 0, .slice none 0 0]])) := H9
                                have BW := H9.blk 0 (b := c.wb) (t := 31) (c := #[.pointer (some ⟨c.ab, 0, none⟩), .pointer (some ⟨c.rb, 0, none⟩), .pointer (some ⟨c.eb, 0, none⟩), .int .i64 c.a, .int .i64 c.b, .int .i64 c.entry]) (by rfl)
                                have qs := And.intro (BW.cell 0) (BW.cell 5)
                                clear BW
                                refine hK9.out _ _ (fun _ => qs) ?_
                                clear hK9 K9 qs
                                try simp only [Act.put, List.setIfInBounds_toArray, List.set_cons_zero, List.set_cons_succ]
                                exact L011.out x1 b1 b2 (Lib.hid H9)
                          case b =>
                            intro z9 vp1 vk1 vn1 HL9
                            try clear L311
                            try clear L211
                            try clear L301
                            try clear L310
                            try clear L111
                            try clear L011
                            try clear L101
                            try clear L110
                            refine AnyK.three (i := 14) (j := 15) (m := 16) (ready_ops hops (by kernel_rfl)) (get_ops hops rfl) (get_ops hops rfl) (get_ops hops rfl) (fun K9 hK9 => ?_) (fun K9 hK9 => ?_) (fun K9 hK9 => ?_)
                            · go_simp
                              refine (Look2 c HCE.out ⟨h7, h8⟩ HL9.out (by rfl)).mono ?_
                              rintro e y2 ⟨vp2, vk2, vn2, rfl, H9⟩
                              have H9 : Heap w y2 ((wdL c (wd0 T n r)) ++ (ndL entryNd vp1 vk1 vn1) ++ (ndL rootNd vp2 vk2 vn2)) := H9
                              have BW := H9.blk 0 (b := c.wb) (t := 31) (c := #[.pointer (some ⟨c.ab, 0, none⟩), .pointer (some ⟨c.rb, 0, none⟩), .pointer (some ⟨c.eb, 0, none⟩), .int .i64 c.a, .int .i64 c.b, .int .i64 c.entry]) (by rfl)
                              have qs := And.intro (BW.cell 0) (BW.cell 5)
                              clear BW
                              refine hK9.out _ _ (fun _ => qs) ?_
                              clear hK9 K9 qs
                              try simp only [Act.put, List.setIfInBounds_toArray, List.set_cons_zero, List.set_cons_succ]
                              exact L300.out y2 vp1 vk1 vn1 vp2 vk2 vn2 (Lib.hid H9)
                            · go_simp
                              have H9 := HL9.out.alloc 58 #[.bool false, .bool false, .slice none 0 0, .slice none 0 0, .slice none 0 0]
                              generalize z9.heap.size = b1 at H9 hK9 ⊢
                              generalize z9.alloc (.cells #[.bool false, .bool false, .slice none 0 0, .slice none 0 0, .slice none 0 0] 58) = x1 at H9 hK9 ⊢
                              have H9 : Heap w x1 ((wdL c (wd0 T n r)) ++ (ndL entryNd vp1 vk1 vn1) ++ ([blkP b1 58 #[.bool false, .bool false, .slice none 0 0, .slice none 0 0, .slice none 0 0]])) := H9
                              have BW := H9.blk 0 (b := c.wb) (t := 31) (c := #[.pointer (some ⟨c.ab, 0, none⟩), .pointer (some ⟨c.rb, 0, none⟩), .pointer (some ⟨c.eb, 0, none⟩), .int .i64 c.a, .int .i64 c.b, .int .i64 c.entry]) (by rfl)
                              have qs := And.intro (BW.cell 0) (BW.cell 5)
                              clear BW
                              refine hK9.out _ _ (fun _ => qs) ?_
                              clear hK9 K9 qs
                              try simp only [Act.put, List.setIfInBounds_toArray, List.set_cons_zero, List.set_cons_succ]
                              exact L210.out x1 vp1 vk1 vn1 b1 (Lib.hid H9)
                            · go_simp
                              have H9 := HL9.out.alloc 58 #[.bool false, .bool false, .slice none 0 0, .slice none 0 0, .slice none 0 0]
                              generalize z9.heap.size = b2 at H9 hK9 ⊢
                              generalize z9.alloc (.cells #[.bool false, .bool false, .slice none 0 0, .slice none 0 0, .slice none 0 0] 58) = x2 at H9 hK9 ⊢
                              have H9 : Heap w x2 ((wdL c (wd0 T n r)) ++ (ndL entryNd vp1 vk1 vn1) ++ ([blkP b2 58 #[.bool false, .bool false, .slice none 0 0, .slice none 0 0, .slice none 0 0]])) := H9
                              have BW := H9.blk 0 (b := c.wb) (t := 31) (c := #[.pointer (some ⟨c.ab, 0, none⟩), .pointer (some ⟨c.rb, 0, none⟩), .pointer (some ⟨c.eb, 0, none⟩), .int .i64 c.a, .int .i64 c.b, .int .i64 c.entry]) (by rfl)
                              have qs := And.intro (BW.cell 0) (BW.cell 5)
                              clear BW
                              refine hK9.out _ _ (fun _ => qs) ?_
                              clear hK9 K9 qs
                              try simp only [Act.put, List.setIfInBounds_toArray, List.set_cons_zero, List.set_cons_succ]
                              exact L201.out x2 vp1 vk1 vn1 b2 (Lib.hid H9)
                        case b =>
                          intro z9 vp1 vk1 vn1 b1 HL9
                          try clear L311
                          try clear L211
                          try clear L301
                          try clear L310
                          try clear L201
                          try clear L300
                          try clear L011
                          try clear L101
                          refine AnyK.two (i := 13) (j := 16) (ready_ops hops (by kernel_rfl)) (get_ops hops rfl) (get_ops hops rfl) (fun K9 hK9 => ?_) (fun K9 hK9 => ?_)
                          · go_simp
                            refine (Of_calls 0 1 _ (by omega) (by omega)).mono ?_
                            rintro e y ⟨rfl, hy⟩
                            have hy := hy.symm
                            subst hy
                            have BW := HL9.out.blk 0 (b := c.wb) (t := 31) (c := #[.pointer (some ⟨c.ab, 0, none⟩), .pointer (some ⟨c.rb, 0, none⟩), .pointer (some ⟨c.eb, 0, none⟩), .int .i64 c.a, .int .i64 c.b, .int .i64 c.entry]) (by rfl)
                            have qs := And.intro (BW.cell 0) (BW.cell 5)
                            clear BW
                            refine hK9.out _ _ (fun _ => qs) ?_
                            clear hK9 K9 qs
                            try simp only [Act.put, List.setIfInBounds_toArray, List.set_cons_zero, List.set_cons_succ]
                            exact L210.out z9 vp1 vk1 vn1 b1 HL9
                          · go_simp
                            have H9 := HL9.out.alloc 58 #[.bool false, .bool false, .slice none 0 0, .slice none 0 0, .slice none 0 0]
                            generalize z9.heap.size = b2 at H9 hK9 ⊢
                            generalize z9.alloc (.cells #[.bool false, .bool false, .slice none 0 0, .slice none 0 0, .slice none 0 0] 58) = x2 at H9 hK9 ⊢
                            have H9 : Heap w x2 ((wdL c (wd0 T n r)) ++ (ndL entryNd vp1 vk1 vn1) ++ ([blkP b1 58 #[.bool false, .bool false, .slice none 0 0, .slice none 0 0, .slice none 0 0]]) ++ ([blkP b2 58 #[.bool false, .bool false, .slice none 0 0, .slice none 0 0, .slice none 0 0]])) := H9
                            have BW := H9.blk 0 (b := c.wb) (t := 31) (c := #[.pointer (some ⟨c.ab, 0, none⟩), .pointer (some ⟨c.rb, 0, none⟩), .pointer (some ⟨c.eb, 0, none⟩), .int .i64 c.a, .int .i64 c.b, .int .i64 c.entry]) (by rfl)
                            have qs := And.intro (BW.cell 0) (BW.cell 5)
                            clear BW
                            refine hK9.out _ _ (fun _ => qs) ?_
                            clear hK9 K9 qs
                            try simp only [Act.put, List.setIfInBounds_toArray, List.set_cons_zero, List.set_cons_succ]
                            exact L111.out x2 vp1 vk1 vn1 b1 b2 (Lib.hid H9)
                      case b =>
                        intro z9 vp1 vk1 vn1 b2 HL9
                        try clear L311
                        try clear L211
                        try clear L301
                        try clear L310
                        try clear L210
                        try clear L300
                        try clear L011
                        refine AnyK.two (i := 13) (j := 15) (ready_ops hops (by kernel_rfl)) (get_ops hops rfl) (get_ops hops rfl) (fun K9 hK9 => ?_) (fun K9 hK9 => ?_)
                        · go_simp
                          refine (Of_calls 0 1 _ (by omega) (by omega)).mono ?_
                          rintro e y ⟨rfl, hy⟩
                          have hy := hy.symm
                          subst hy
                          have BW := HL9.out.blk 0 (b := c.wb) (t := 31) (c := #[.pointer (some ⟨c.ab, 0, none⟩), .pointer (some ⟨c.rb, 0, none⟩), .pointer (some ⟨c.eb, 0, none⟩), .int .i64 c.a, .int .i64 c.b, .int .i64 c.entry]) (by rfl)
                          have qs := And.intro (BW.cell 0) (BW.cell 5)
                          clear BW
                          refine hK9.out _ _ (fun _ => qs) ?_
                          clear hK9 K9 qs
                          try simp only [Act.put, List.setIfInBounds_toArray, List.set_cons_zero, List.set_cons_succ]
                          exact L201.out z9 vp1 vk1 vn1 b2 HL9
                        · go_simp
                          have H9 := HL9.out.alloc 58 #[.bool false, .bool false, .slice none 0 0, .slice none 0 0, .slice none 0 0]
                          generalize z9.heap.size = b1 at H9 hK9 ⊢
                          generalize z9.alloc (.cells #[.bool false, .bool false, .slice none 0 0, .slice none 0 0, .slice none 0 0] 58) = x1 at H9 hK9 ⊢
                          have H9 : Heap w x1 (((wdL c (wd0 T n r)) ++ (ndL entryNd vp1 vk1 vn1)) ++ (([blkP b2 58 #[.bool false, .bool false, .slice none 0 0, .slice none 0 0, .slice none 0 0]])) ++ ([blkP b1 58 #[.bool false, .bool false, .slice none 0 0, .slice none 0 0, .slice none 0 0]])) := H9
                          have H9 := H9.swapE
                          have H9 : Heap w x1 ((wdL c (wd0 T n r)) ++ (ndL entryNd vp1 vk1 vn1) ++ ([blkP b1 58 #[.bool false, .bool false, .slice none 0 0, .slice none 0 0, .slice none 0 0]]) ++ ([blkP b2 58 #[.bool false, .bool false, .slice none 0 0, .slice none 0 0, .slice none 0 0]])) := H9
                          have BW := H9.blk 0 (b := c.wb) (t := 31) (c := #[.pointer (some ⟨c.ab, 0, none⟩), .pointer (some ⟨c.rb, 0, none⟩), .pointer (some ⟨c.eb, 0, none⟩), .int .i64 c.a, .int .i64 c.b, .int .i64 c.entry]) (by rfl)
                          have qs := And.intro (BW.cell 0) (BW.cell 5)
                          clear BW
                          refine hK9.out _ _ (fun _ => qs) ?_
                          clear hK9 K9 qs
                          try simp only [Act.put, List.setIfInBounds_toArray, List.set_cons_zero, List.set_cons_succ]
                          exact L111.out x1 vp1 vk1 vn1 b1 b2 (Lib.hid H9)
                    case b =>
                      intro z9 b1 b2 HL9
                      try clear L311
                      try clear L211
                      try clear L301
                      try clear L310
                      try clear L201
                      try clear L210
                      try clear L300
                      refine AnyK.one (i := 8) (ready_ops hops (by kernel_rfl)) (get_ops hops rfl) (fun K9 hK9 => ?_)
                      go_simp
                      refine (Look1 c HCE.out ⟨h7, h8⟩ HL9.out (by rfl)).mono ?_
                      rintro e y1 ⟨vp1, vk1, vn1, rfl, H9⟩
                      have H9 : Heap w y1 (((wdL c (wd0 T n r))) ++ (([blkP b1 58 #[.bool false, .bool false, .slice none 0 0, .slice none 0 0, .slice none 0 0]]) ++ ([blkP b2 58 #[.bool false, .bool false, .slice none 0 0, .slice none 0 0, .slice none 0 0]])) ++ (ndL entryNd vp1 vk1 vn1)) := H9
                      have H9 := H9.swapE
                      have H9 : Heap w y1 ((wdL c (wd0 T n r)) ++ (ndL entryNd vp1 vk1 vn1) ++ ([blkP b1 58 #[.bool false, .bool false, .slice none 0 0, .slice none 0 0, .slice none 0 0]]) ++ ([blkP b2 58 #[.bool false, .bool false, .slice none 0 0, .slice none 0 0, .slice none 0 0]])) := H9
                      have BW := H9.blk 0 (b := c.wb) (t := 31) (c := #[.pointer (some ⟨c.ab, 0, none⟩), .pointer (some ⟨c.rb, 0, none⟩), .pointer (some ⟨c.eb, 0, none⟩), .int .i64 c.a, .int .i64 c.b, .int .i64 c.entry]) (by rfl)
                      have qs := And.intro (BW.cell 0) (BW.cell 5)
                      clear BW
                      refine hK9.out _ _ (fun _ => qs) ?_
                      clear hK9 K9 qs
                      try simp only [Act.put, List.setIfInBounds_toArray, List.set_cons_zero, List.set_cons_succ]
                      exact L111.out y1 vp1 vk1 vn1 b1 b2 (Lib.hid H9)
                  case b =>
                    intro z9 vp1 vk1 vn1 vp2 vk2 vn2 HL9
                    try clear L311
                    try clear L211
                    try clear L111
                    try clear L201
                    try clear L210
                    refine AnyK.two (i := 15) (j := 16) (ready_ops hops (by kernel_rfl)) (get_ops hops rfl) (get_ops hops rfl) (fun K9 hK9 => ?_) (fun K9 hK9 => ?_)
                    · go_simp
                      have H9 := HL9.out.alloc 58 #[.bool false, .bool false, .slice none 0 0, .slice none 0 0, .slice none 0 0]
                      generalize z9.heap.size = b1 at H9 hK9 ⊢
                      generalize z9.alloc (.cells #[.bool false, .bool false, .slice none 0 0, .slice none 0 0, .slice none 0 0] 58) = x1 at H9 hK9 ⊢
                      have H9 : Heap w x1 ((wdL c (wd0 T n r)) ++ (ndL entryNd vp1 vk1 vn1) ++ (ndL rootNd vp2 vk2 vn2) ++ ([blkP b1 58 #[.bool false, .bool false, .slice none 0 0, .slice none 0 0, .slice none 0 0]])) := H9
                      have BW := H9.blk 0 (b := c.wb) (t := 31) (c := #[.pointer (some ⟨c.ab, 0, none⟩), .pointer (some ⟨c.rb, 0, none⟩), .pointer (some ⟨c.eb, 0, none⟩), .int .i64 c.a, .int .i64 c.b, .int .i64 c.entry]) (by rfl)
                      have qs := And.intro (BW.cell 0) (BW.cell 5)
                      clear BW
                      refine hK9.out _ _ (fun _ => qs) ?_
                      clear hK9 K9 qs
                      try simp only [Act.put, List.setIfInBounds_toArray, List.set_cons_zero, List.set_cons_succ]
                      exact L310.out x1 vp1 vk1 vn1 vp2 vk2 vn2 b1 (Lib.hid H9)
                    · go_simp
                      have H9 := HL9.out.alloc 58 #[.bool false, .bool false, .slice none 0 0, .slice none 0 0, .slice none 0 0]
                      generalize z9.heap.size = b2 at H9 hK9 ⊢
                      generalize z9.alloc (.cells #[.bool false, .bool false, .slice none 0 0, .slice none 0 0, .slice none 0 0] 58) = x2 at H9 hK9 ⊢
                      have H9 : Heap w x2 ((wdL c (wd0 T n r)) ++ (ndL entryNd vp1 vk1 vn1) ++ (ndL rootNd vp2 vk2 vn2) ++ ([blkP b2 58 #[.bool false, .bool false, .slice none 0 0, .slice none 0 0, .slice none 0 0]])) := H9
                      have BW := H9.blk 0 (b := c.wb) (t := 31) (c := #[.pointer (some ⟨c.ab, 0, none⟩), .pointer (some ⟨c.rb, 0, none⟩), .pointer (some ⟨c.eb, 0, none⟩), .int .i64 c.a, .int .i64 c.b, .int .i64 c.entry]) (by rfl)
                      have qs := And.intro (BW.cell 0) (BW.cell 5)
                      clear BW
                      refine hK9.out _ _ (fun _ => qs) ?_
                      clear hK9 K9 qs
                      try simp only [Act.put, List.setIfInBounds_toArray, List.set_cons_zero, List.set_cons_succ]
                      exact L301.out x2 vp1 vk1 vn1 vp2 vk2 vn2 b2 (Lib.hid H9)
                case b =>
                  intro z9 vp1 vk1 vn1 b1 HL9
                  try clear L311
                  try clear L301
                  try clear L111
                  try clear L201
                  refine AnyK.two (i := 14) (j := 16) (ready_ops hops (by kernel_rfl)) (get_ops hops rfl) (get_ops hops rfl) (fun K9 hK9 => ?_) (fun K9 hK9 => ?_)
                  · go_simp
                    refine (Look2 c HCE.out ⟨h7, h8⟩ HL9.out (by rfl)).mono ?_
                    rintro e y2 ⟨vp2, vk2, vn2, rfl, H9⟩
                    have H9 : Heap w y2 (((wdL c (wd0 T n r)) ++ (ndL entryNd vp1 vk1 vn1)) ++ (([blkP b1 58 #[.bool false, .bool false, .slice none 0 0, .slice none 0 0, .slice none 0 0]])) ++ (ndL rootNd vp2 vk2 vn2)) := H9
                    have H9 := H9.swapE
                    have H9 : Heap w y2 ((wdL c (wd0 T n r)) ++ (ndL entryNd vp1 vk1 vn1) ++ (ndL rootNd vp2 vk2 vn2) ++ ([blkP b1 58 #[.bool false, .bool false, .slice none 0 0, .slice none 0 0, .slice none 0 0]])) := H9
                    have BW := H9.blk 0 (b := c.wb) (t := 31) (c := #[.pointer (some ⟨c.ab, 0, none⟩), .pointer (some ⟨c.rb, 0, none⟩), .pointer (some ⟨c.eb, 0, none⟩), .int .i64 c.a, .int .i64 c.b, .int .i64 c.entry]) (by rfl)
                    have qs := And.intro (BW.cell 0) (BW.cell 5)
                    clear BW
                    refine hK9.out _ _ (fun _ => qs) ?_
                    clear hK9 K9 qs
                    try simp only [Act.put, List.setIfInBounds_toArray, List.set_cons_zero, List.set_cons_succ]
                    exact L310.out y2 vp1 vk1 vn1 vp2 vk2 vn2 b1 (Lib.hid H9)
                  · go_simp
                    have H9 := HL9.out.alloc 58 #[.bool false, .bool false, .slice none 0 0, .slice none 0 0, .slice none 0 0]
                    generalize z9.heap.size = b2 at H9 hK9 ⊢
                    generalize z9.alloc (.cells #[.bool false, .bool false, .slice none 0 0, .slice none 0 0, .slice none 0 0] 58) = x2 at H9 hK9 ⊢
                    have H9 : Heap w x2 ((wdL c (wd0 T n r)) ++ (ndL entryNd vp1 vk1 vn1) ++ ([blkP b1 58 #[.bool false, .bool false, .slice none 0 0, .slice none 0 0, .slice none 0 0]]) ++ ([blkP b2 58 #[.bool false, .bool false, .slice none 0 0, .slice none 0 0, .slice none 0 0]])) := H9
                    have BW := H9.blk 0 (b := c.wb) (t := 31) (c := #[.pointer (some ⟨c.ab, 0, none⟩), .pointer (some ⟨c.rb, 0, none⟩), .pointer (some ⟨c.eb, 0, none⟩), .int .i64 c.a, .int .i64 c.b, .int .i64 c.entry]) (by rfl)
                    have qs := And.intro (BW.cell 0) (BW.cell 5)
                    clear BW
                    refine hK9.out _ _ (fun _ => qs) ?_
                    clear hK9 K9 qs
                    try simp only [Act.put, List.setIfInBounds_toArray, List.set_cons_zero, List.set_cons_succ]
                    exact L211.out x2 vp1 vk1 vn1 b1 b2 (Lib.hid H9)
              case b =>
                intro z9 vp1 vk1 vn1 b2 HL9
                try clear L311
                try clear L310
                try clear L111
                refine AnyK.two (i := 14) (j := 15) (ready_ops hops (by kernel_rfl)) (get_ops hops rfl) (get_ops hops rfl) (fun K9 hK9 => ?_) (fun K9 hK9 => ?_)
                · go_simp
                  refine (Look2 c HCE.out ⟨h7, h8⟩ HL9.out (by rfl)).mono ?_
                  rintro e y2 ⟨vp2, vk2, vn2, rfl, H9⟩
                  have H9 : Heap w y2 (((wdL c (wd0 T n r)) ++ (ndL entryNd vp1 vk1 vn1)) ++ (([blkP b2 58 #[.bool false, .bool false, .slice none 0 0, .slice none 0 0, .slice none 0 0]])) ++ (ndL rootNd vp2 vk2 vn2)) := H9
                  have H9 := H9.swapE
                  have H9 : Heap w y2 ((wdL c (wd0 T n r)) ++ (ndL entryNd vp1 vk1 vn1) ++ (ndL rootNd vp2 vk2 vn2) ++ ([blkP b2 58 #[.bool false, .bool false, .slice none 0 0, .slice none 0 0, .slice none 0 0]])) := H9
                  have BW := H9.blk 0 (b := c.wb) (t := 31) (c := #[.pointer (some ⟨c.ab, 0, none⟩), .pointer (some ⟨c.rb, 0, none⟩), .pointer (some ⟨c.eb, 0, none⟩), .int .i64 c.a, .int .i64 c.b, .int .i64 c.entry]) (by rfl)
                  have qs := And.intro (BW.cell 0) (BW.cell 5)
                  clear BW
                  refine hK9.out _ _ (fun _ => qs) ?_
                  clear hK9 K9 qs
                  try simp only [Act.put, List.setIfInBounds_toArray, List.set_cons_zero, List.set_cons_succ]
                  exact L301.out y2 vp1 vk1 vn1 vp2 vk2 vn2 b2 (Lib.hid H9)
                · go_simp
                  have H9 := HL9.out.alloc 58 #[.bool false, .bool false, .slice none 0 0, .slice none 0 0, .slice none 0 0]
                  generalize z9.heap.size = b1 at H9 hK9 ⊢
                  generalize z9.alloc (.cells #[.bool false, .bool false, .slice none 0 0, .slice none 0 0, .slice none 0 0] 58) = x1 at H9 hK9 ⊢
                  have H9 : Heap w x1 (((wdL c (wd0 T n r)) ++ (ndL entryNd vp1 vk1 vn1)) ++ (([blkP b2 58 #[.bool false, .bool false, .slice none 0 0, .slice none 0 0, .slice none 0 0]])) ++ ([blkP b1 58 #[.bool false, .bool false, .slice none 0 0, .slice none 0 0, .slice none 0 0]])) := H9
                  have H9 := H9.swapE
                  have H9 : Heap w x1 ((wdL c (wd0 T n r)) ++ (ndL entryNd vp1 vk1 vn1) ++ ([blkP b1 58 #[.bool false, .bool false, .slice none 0 0, .slice none 0 0, .slice none 0 0]]) ++ ([blkP b2 58 #[.bool false, .bool false, .slice none 0 0, .slice none 0 0, .slice none 0 0]])) := H9
                  have BW := H9.blk 0 (b := c.wb) (t := 31) (c := #[.pointer (some ⟨c.ab, 0, none⟩), .pointer (some ⟨c.rb, 0, none⟩), .pointer (some ⟨c.eb, 0, none⟩), .int .i64 c.a, .int .i64 c.b, .int .i64 c.entry]) (by rfl)
                  have qs := And.intro (BW.cell 0) (BW.cell 5)
                  clear BW
                  refine hK9.out _ _ (fun _ => qs) ?_
                  clear hK9 K9 qs
                  try simp only [Act.put, List.setIfInBounds_toArray, List.set_cons_zero, List.set_cons_succ]
                  exact L211.out x1 vp1 vk1 vn1 b1 b2 (Lib.hid H9)
            case b =>
              intro z9 vp1 vk1 vn1 b1 b2 HL9
              try clear L311
              try clear L301
              try clear L310
              refine AnyK.one (i := 13) (ready_ops hops (by kernel_rfl)) (get_ops hops rfl) (fun K9 hK9 => ?_)
              go_simp
              refine (Of_calls 0 1 _ (by omega) (by omega)).mono ?_
              rintro e y ⟨rfl, hy⟩
              have hy := hy.symm
              subst hy
              have BW := HL9.out.blk 0 (b := c.wb) (t := 31) (c := #[.pointer (some ⟨c.ab, 0, none⟩), .pointer (some ⟨c.rb, 0, none⟩), .pointer (some ⟨c.eb, 0, none⟩), .int .i64 c.a, .int .i64 c.b, .int .i64 c.entry]) (by rfl)
              have qs := And.intro (BW.cell 0) (BW.cell 5)
              clear BW
              refine hK9.out _ _ (fun _ => qs) ?_
              clear hK9 K9 qs
              try simp only [Act.put, List.setIfInBounds_toArray, List.set_cons_zero, List.set_cons_succ]
              exact L211.out z9 vp1 vk1 vn1 b1 b2 HL9
          case b =>
            intro z9 vp1 vk1 vn1 vp2 vk2 vn2 b1 HL9
            try clear L211
            try clear L301
            refine AnyK.one (i := 16) (ready_ops hops (by kernel_rfl)) (get_ops hops rfl) (fun K9 hK9 => ?_)
            go_simp
            have H9 := HL9.out.alloc 58 #[.bool false, .bool false, .slice none 0 0, .slice none 0 0, .slice none 0 0]
            generalize z9.heap.size = b2 at H9 hK9 ⊢
            generalize z9.alloc (.cells #[.bool false, .bool false, .slice none 0 0, .slice none 0 0, .slice none 0 0] 58) = x2 at H9 hK9 ⊢
            have H9 : Heap w x2 ((wdL c (wd0 T n r)) ++ (ndL entryNd vp1 vk1 vn1) ++ (ndL rootNd vp2 vk2 vn2) ++ ([blkP b1 58 #[.bool false, .bool false, .slice none 0 0, .slice none 0 0, .slice none 0 0]]) ++ ([blkP b2 58 #[.bool false, .bool false, .slice none 0 0, .slice none 0 0, .slice none 0 0]])) := H9
            have BW := H9.blk 0 (b := c.wb) (t := 31) (c := #[.pointer (some ⟨c.ab, 0, none⟩), .pointer (some ⟨c.rb, 0, none⟩), .pointer (some ⟨c.eb, 0, none⟩), .int .i64 c.a, .int .i64 c.b, .int .i64 c.entry]) (by rfl)
            have qs := And.intro (BW.cell 0) (BW.cell 5)
            clear BW
            refine hK9.out _ _ (fun _ => qs) ?_
            clear hK9 K9 qs
            try simp only [Act.put, List.setIfInBounds_toArray, List.set_cons_zero, List.set_cons_succ]
            exact L311.out x2 vp1 vk1 vn1 vp2 vk2 vn2 b1 b2 (Lib.hid H9)
        case b =>
          intro z9 vp1 vk1 vn1 vp2 vk2 vn2 b2 HL9
          try clear L211
          refine AnyK.one (i := 15) (ready_ops hops (by kernel_rfl)) (get_ops hops rfl) (fun K9 hK9 => ?_)
          go_simp
          have H9 := HL9.out.alloc 58 #[.bool false, .bool false, .slice none 0 0, .slice none 0 0, .slice none 0 0]
          generalize z9.heap.size = b1 at H9 hK9 ⊢
          generalize z9.alloc (.cells #[.bool false, .bool false, .slice none 0 0, .slice none 0 0, .slice none 0 0] 58) = x1 at H9 hK9 ⊢
          have H9 : Heap w x1 (((wdL c (wd0 T n r)) ++ (ndL entryNd vp1 vk1 vn1) ++ (ndL rootNd vp2 vk2 vn2)) ++ (([blkP b2 58 #[.bool false, .bool false, .slice none 0 0, .slice none 0 0, .slice none 0 0]])) ++ ([blkP b1 58 #[.bool false, .bool false, .slice none 0 0, .slice none 0 0, .slice none 0 0]])) := H9
          have H9 := H9.swapE
          have H9 : Heap w x1 ((wdL c (wd0 T n r)) ++ (ndL entryNd vp1 vk1 vn1) ++ (ndL rootNd vp2 vk2 vn2) ++ ([blkP b1 58 #[.bool false, .bool false, .slice none 0 0, .slice none 0 0, .slice none 0 0]]) ++ ([blkP b2 58 #[.bool false, .bool false, .slice none 0 0, .slice none 0 0, .slice none 0 0]])) := H9
          have BW := H9.blk 0 (b := c.wb) (t := 31) (c := #[.pointer (some ⟨c.ab, 0, none⟩), .pointer (some ⟨c.rb, 0, none⟩), .pointer (some ⟨c.eb, 0, none⟩), .int .i64 c.a, .int .i64 c.b, .int .i64 c.entry]) (by rfl)
          have qs := And.intro (BW.cell 0) (BW.cell 5)
          clear BW
          refine hK9.out _ _ (fun _ => qs) ?_
          clear hK9 K9 qs
          try simp only [Act.put, List.setIfInBounds_toArray, List.set_cons_zero, List.set_cons_succ]
          exact L311.out x1 vp1 vk1 vn1 vp2 vk2 vn2 b1 b2 (Lib.hid H9)
      case b =>
        intro z9 vp1 vk1 vn1 b1 b2 HL9
        refine AnyK.one (i := 14) (ready_ops hops (by kernel_rfl)) (get_ops hops rfl) (fun K9 hK9 => ?_)
        go_simp
        refine (Look2 c HCE.out ⟨h7, h8⟩ HL9.out (by rfl)).mono ?_
        rintro e y2 ⟨vp2, vk2, vn2, rfl, H9⟩
        have H9 : Heap w y2 (((wdL c (wd0 T n r)) ++ (ndL entryNd vp1 vk1 vn1)) ++ (([blkP b1 58 #[.bool false, .bool false, .slice none 0 0, .slice none 0 0, .slice none 0 0]]) ++ ([blkP b2 58 #[.bool false, .bool false, .slice none 0 0, .slice none 0 0, .slice none 0 0]])) ++ (ndL rootNd vp2 vk2 vn2)) := H9
        have H9 := H9.swapE
        have H9 : Heap w y2 ((wdL c (wd0 T n r)) ++ (ndL entryNd vp1 vk1 vn1) ++ (ndL rootNd vp2 vk2 vn2) ++ ([blkP b1 58 #[.bool false, .bool false, .slice none 0 0, .slice none 0 0, .slice none 0 0]]) ++ ([blkP b2 58 #[.bool false, .bool false, .slice none 0 0, .slice none 0 0, .slice none 0 0]])) := H9
        have BW := H9.blk 0 (b := c.wb) (t := 31) (c := #[.pointer (some ⟨c.ab, 0, none⟩), .pointer (some ⟨c.rb, 0, none⟩), .pointer (some ⟨c.eb, 0, none⟩), .int .i64 c.a, .int .i64 c.b, .int .i64 c.entry]) (by rfl)
        have qs := And.intro (BW.cell 0) (BW.cell 5)
        clear BW
        refine hK9.out _ _ (fun _ => qs) ?_
        clear hK9 K9 qs
        try simp only [Act.put, List.setIfInBounds_toArray, List.set_cons_zero, List.set_cons_succ]
        exact L311.out y2 vp1 vk1 vn1 vp2 vk2 vn2 b1 b2 (Lib.hid H9)
    case b =>
      intro z9 vp1 vk1 vn1 vp2 vk2 vn2 b1 b2 HL9
      obtain ⟨ap1, cp1, xp1, _, _⟩ := (HL9.out.row 4 (by rfl)).form
      have ep1 : vp1 = .slice ap1 0 cp1 := xp1
      clear xp1
      obtain ⟨ak1, ck1, xk1, _, _⟩ := (HL9.out.row 5 (by rfl)).form
      have ek1 : vk1 = .slice ak1 0 ck1 := xk1
      clear xk1
      obtain ⟨an1, cn1, xn1, _, _⟩ := (HL9.out.row 6 (by rfl)).form
      have en1 : vn1 = .slice an1 1 cn1 := xn1
      clear xn1
      subst ep1 ek1 en1
      obtain ⟨ap2, cp2, xp2, _, _⟩ := (HL9.out.row 7 (by rfl)).form
      have ep2 : vp2 = .slice ap2 0 cp2 := xp2
      clear xp2
      obtain ⟨ak2, ck2, xk2, _, _⟩ := (HL9.out.row 8 (by rfl)).form
      have ek2 : vk2 = .slice ak2 0 ck2 := xk2
      clear xk2
      obtain ⟨an2, cn2, xn2, _, _⟩ := (HL9.out.row 9 (by rfl)).form
      have en2 : vn2 = .slice an2 0 cn2 := xn2
      clear xn2
      subst ep2 ek2 en2
      have B1 := HL9.out.blk 10 (b := b1) (t := 58) (c := #[.bool false, .bool false, .slice none 0 0, .slice none 0 0, .slice none 0 0]) (by rfl)
      have e10 := B1.cell 0
      have f10 := B1.froz 0
      have e11 := B1.cell 1
      have f11 := B1.froz 1
      have e12 := B1.cell 2
      have f12 := B1.froz 2
      have e13 := B1.cell 3
      have f13 := B1.froz 3
      have e14 := B1.cell 4
      have f14 := B1.froz 4
      have HS1 := HL9.out.put5 10 (b := b1) (t := 58) (by rfl) (.bool true) (.bool false) (.slice ap1 0 cp1) (.slice ak1 0 ck1) (.slice an1 1 cn1)
      clear B1
      refine AnyK.one (i := 17) (ready_ops hops (by kernel_rfl)) (get_ops hops rfl) (fun K9 hK9 => ?_)
      go_simp
      refine hK9.out _ _ (fun hx => absurd (by decide) hx) ?_
      clear hK9 K9
      try simp only [Act.put, List.setIfInBounds_toArray, List.set_cons_zero, List.set_cons_succ]
      generalize ((((z9.setCell ⟨b1, 0, none⟩ (.bool true)).setCell ⟨b1, 1, none⟩ (.bool false)).setCell ⟨b1, 2, none⟩ (.slice ap1 0 cp1)).setCell ⟨b1, 3, none⟩ (.slice ak1 0 ck1)).setCell ⟨b1, 4, none⟩ (.slice an1 1 cn1) = y17 at HS1 ⊢
      clear e10 e11 e12 e13 e14 f10 f11 f12 f13 f14
      have B2 := HS1.blk 11 (b := b2) (t := 58) (c := #[.bool false, .bool false, .slice none 0 0, .slice none 0 0, .slice none 0 0]) (by rfl)
      have e20 := B2.cell 0
      have f20 := B2.froz 0
      have e21 := B2.cell 1
      have f21 := B2.froz 1
      have e22 := B2.cell 2
      have f22 := B2.froz 2
      have e23 := B2.cell 3
      have f23 := B2.froz 3
      have e24 := B2.cell 4
      have f24 := B2.froz 4
      have HS2 := HS1.put5 11 (b := b2) (t := 58) (by rfl) (.bool false) (.bool false) (.slice ap2 0 cp2) (.slice ak2 0 ck2) (.slice an2 0 cn2)
      clear B2
      have HF := HS2.pick2 (wdL c (wd0 T n r)) rfl rfl 10 11 (p := blkP b1 58 #[.bool true, .bool false, .slice ap1 0 cp1, .slice ak1 0 ck1, .slice an1 1 cn1]) (q := blkP b2 58 #[.bool false, .bool false, .slice ap2 0 cp2, .slice ak2 0 ck2, .slice an2 0 cn2]) rfl rfl (by decide) (by decide) (by decide)
      have HF := Lib.hid HF
      clear HS1 HS2
      refine AnyK.one (i := 18) (ready_ops hops (by kernel_rfl)) (get_ops hops rfl) (fun K9 hK9 => ?_)
      go_simp
      refine hK9.out _ _ (fun hx => absurd (by decide) hx) ?_
      clear hK9 K9
      try simp only [Act.put, List.setIfInBounds_toArray, List.set_cons_zero, List.set_cons_succ]
      refine AnyK.done (ready_ops hops (by kernel_rfl)) ?_ _
      subst hQ9
      refine NoPanic.normal ?_
      go_wp2_with fail
      go_meet
      exact ⟨b1, b2, _, _, _, _, _, _, _, _, _, _, _, _, rfl, rfl, HF⟩
  case rest =>
    obtain ⟨b1, b2, ap1, cp1, ak1, ck1, an1, cn1, ap2, cp2, ak2, ck2, an2, cn2, rfl, rfl, H8⟩ := hcut
    clear v0 v1 v2 v3 v4 v5 HH
    rename World => w4
    obtain ⟨v0, v1, v2, v3, v4, v5⟩ := wdL_cells H8.out
    rw [HCE.out] at v5
    have B1 := H8.out.blk 4 (b := b1) (t := 58) (c := #[.bool true, .bool false, .slice ap1 0 cp1, .slice ak1 0 ck1, .slice an1 1 cn1]) rfl
    have B2 := H8.out.blk 5 (b := b2) (t := 58) (c := #[.bool false, .bool false, .slice ap2 0 cp2, .slice ak2 0 ck2, .slice an2 0 cn2]) rfl
    have e10 := B1.cell 0
    have e11 := B1.cell 1
    have e13 := B1.cell 3
    have e14 := B1.cell 4
    have okA := Lib.hid (newAr_ok (T := T) (r := r) ⟨h7, h8⟩).1
    have CWy := Lib.hid (show ∀ z, Heap w z (wdL c (wd0 T n r) ++ [blkP b1 58 #[.bool true, .bool false, .slice ap1 0 cp1, .slice ak1 0 ck1, .slice an1 1 cn1], blkP b2 58 #[.bool false, .bool false, .slice ap2 0 cp2, .slice ak2 0 ck2, .slice an2 0 cn2]]) → Calls Try.prog 47 #[.pointer (some ⟨c.ab, 0, none⟩), .int .i64 entryR, .int .i64 0] z (fun e w' => e = .returned (.int .i64 (refOf 0 1)) ∧ w' = z) from fun z hz => by
      have C := Way_q (ar := newAr2 n) hz 1 rfl okA.out entryR 0 (at_entry n)
      rw [way_entry] at C
      exact C)
    clear B1
    go_wp2_with fail
    go_quiet ((first
      | (go_at_call 47; exact Calls.quiet_of_same (CWy.out _ (H8.out.drewN _)))
      | (go_at_call 46; exact Calls.quiet_of_same (Of_calls 0 1 _ (by omega) (by omega)))))
    clear v0 v1 v2 v3 v4 v5 e10 e11 e13 e14 B2
    have H9 := H8.out.drewN nq
    generalize w4.drewN nq = w5 at *
    obtain ⟨v0, v1, v2, v3, v4, v5⟩ := wdL_cells H9
    have B2 := H9.blk 5 (b := b2) (t := 58) (c := #[.bool false, .bool false, .slice ap2 0 cp2, .slice ak2 0 ck2, .slice an2 0 cn2]) rfl
    have e20 := B2.cell 0
    have e21 := B2.cell 1
    have e22 := B2.cell 2
    have CU := Lib.hid (show Calls Try.prog 33 #[.pointer (some ⟨c.ab, 0, none⟩)] w5 (fun e w' => e = .returned (.int .i64 2) ∧ w' = w5) from Used_h H9 1 rfl)
    have CM := Lib.hid (show Calls Try.prog 48 #[.pointer (some ⟨c.ab, 0, none⟩)] w5 (fun e w' => e = .returned (.int .i64 n) ∧ w' = w5) from Most_h H9 1 rfl)
    have CF := Lib.hid (show Calls Try.prog 41 #[.pointer (some ⟨c.ab, 0, none⟩)] w5 (fun e w' => e = .returned (.int .i64 0) ∧ w' = w5) from Faults_h H9 1 rfl)
    have CL := Lib.hid (show Calls Try.prog 49 #[.pointer (some ⟨c.rb, 0, none⟩)] w5 (fun e w' => e = .returned (.int .i64 0) ∧ w' = w5) from RtLen_h H9 2 rfl)
    have CE := Lib.hid (show Calls Try.prog 50 #[.pointer (some ⟨c.eb, 0, none⟩)] w5 (fun e w' => e = .returned (.int .i64 (T : Int)) ∧ w' = w5) from by have := Len_h H9 3 rfl; simpa [wd0] using this)
    have CW := Lib.hid (show Calls Try.prog 23 #[.pointer (some ⟨c.eb, 0, none⟩)] w5 (fun e w' => e = .returned (.int .i64 0) ∧ w' = w5) from Now_h H9 3 rfl)
    have HB := Lib.hid H9.below
    clear B2 H9 H8 okA
    go_wp2_with fail
    refine CU.out.mono ?_
    rintro e w9 ⟨rfl, hw⟩
    have hw := hw.symm
    subst hw
    go_wp2_with fail
    refine CM.out.mono ?_
    rintro e w9 ⟨rfl, hw⟩
    have hw := hw.symm
    subst hw
    go_wp2_with fail
    refine CF.out.mono ?_
    rintro e w9 ⟨rfl, hw⟩
    have hw := hw.symm
    subst hw
    go_wp2_with fail
    refine CL.out.mono ?_
    rintro e w9 ⟨rfl, hw⟩
    have hw := hw.symm
    subst hw
    go_wp2_with fail
    refine CE.out.mono ?_
    rintro e w9 ⟨rfl, hw⟩
    have hw := hw.symm
    subst hw
    go_wp2_with fail
    refine CW.out.mono ?_
    rintro e w9 ⟨rfl, hw⟩
    have hw := hw.symm
    subst hw
    go_wp2_with fail
    go_ret
    exact ⟨rfl, HB.out⟩
end Go.Proofs.Ythkohomogknddaa
