/- Awake, ArenaFull: the laws' walks. No condition but that the numbers are of their kinds. -/
import Derived.Test.YtolkpmbmgiplcaaAreP
namespace Go.Proofs.Ytolkpmbmgiplcaa
open Go Go.RowKit
set_option linter.unusedVariables false
set_option linter.unusedSimpArgs false
def aw1 : Ar := ⟨[⟨⟨false, true, [], [], []⟩, [], 0, false, 1, true⟩], [], 1, 1, 0⟩
def aw2 : Ar := ⟨[⟨⟨false, true, [], [], []⟩, [], 0, false, 1, false⟩], [0], 1, 0, 0⟩
def aw3 : Ar := ⟨[⟨⟨false, false, [], [], []⟩, [], 0, false, 2, true⟩], [], 1, 1, 0⟩
theorem aw_1 : allocAr ⟨false, true, [], [], []⟩ (newAr 1) = ((1099511627777, true), aw1) := by rfl
theorem aw_2 : allocAr ⟨false, false, [], [], []⟩ aw1 = ((0, false), aw1) := by rfl
theorem aw_3 : freeAr 1099511627777 aw1 = (true, aw2) := by rfl
theorem aw_4 : allocAr ⟨false, false, [], [], []⟩ aw2 = ((2199023255553, true), aw3) := by rfl
theorem aw_5 : lookAr 1099511627777 aw3 = (noNd, aw3.fault) := by rfl
theorem aw_ok1 : OkN aw1 1 := by have := (OkN.new 1).alloc ⟨false, true, [], [], []⟩ ⟨Nat.zero_le _, Nat.zero_le _, Nat.zero_le _⟩; rwa [aw_1] at this
theorem aw_ok2 : OkN aw2 2 := by have := aw_ok1.freed 1099511627777; rwa [aw_3] at this
theorem aw_ok3 : OkN aw3 3 := by have := aw_ok2.alloc ⟨false, false, [], [], []⟩ ⟨Nat.zero_le _, Nat.zero_le _, Nat.zero_le _⟩; rwa [aw_4] at this
section
variable {w0 w : World} {l : List Piece} {a : Nat} {ar : Ar}
theorem Faults_h (h : Heap w0 w l) (i : Nat) (hi : l[i]? = some (areP a ar)) : Calls Try.prog 22 #[.pointer (some ⟨a, 0, none⟩)] w fun e w' => e = .returned (.int .i64 ar.faults) ∧ w' = w := by
  obtain ⟨S, hS, _⟩ := h.get i hi
  exact Faults_calls hS
theorem Used_h (h : Heap w0 w l) (i : Nat) (hi : l[i]? = some (areP a ar)) : Calls Try.prog 16 #[.pointer (some ⟨a, 0, none⟩)] w fun e w' => e = .returned (.int .i64 ar.used) ∧ w' = w := by
  obtain ⟨S, hS, _⟩ := h.get i hi
  exact Used_calls hS
theorem Most_h (h : Heap w0 w l) (i : Nat) (hi : l[i]? = some (areP a ar)) : Calls Try.prog 21 #[.pointer (some ⟨a, 0, none⟩)] w fun e w' => e = .returned (.int .i64 ar.most) ∧ w' = w := by
  obtain ⟨S, hS, _⟩ := h.get i hi
  exact Most_calls hS
end
/-- A node's fields. -/
theorem field_tagged (x y : Bool) (b1 b2 b3 : Option Addr) (n1 n2 n3 d1 d2 d3 : Nat) (w : World) : (Instr.field 36 (.agg #[.bool x, .bool y, .slice b1 n1 d1, .slice b2 n2 d2, .slice b3 n3 d3]) 1).run Try.prog w = .ok (.bool y) w := by kernel_rfl
theorem Awake_calls (w0 w : World) (h : Fr nob w0 w) : Calls Try.prog 10 #[] w fun e w' => e = .returned (.bool true) ∧ Fr nob w0 w' := by
  have H0 : Heap w0 w [] := (Heap.start w0).go h
  clear h
  go_enter Try.func10, Try.ntmps10
  go_wp2_with fail
  refine (New_h H0 1).mono ?_
  rintro e w1 ⟨rfl, H1⟩
  generalize w.heap.size = a at *
  have H1 : Heap w0 w1 [areP a (newAr 1)] := H1
  have C1 := AllocNo_h H1 0 rfl ((OkN.new 1).more (by omega)) false true
  rw [aw_1] at C1
  go_wp2_with fail
  refine C1.mono ?_
  clear C1
  rintro e w2 ⟨rfl, H2⟩
  have H2 : Heap w0 w2 [areP a aw1] := H2
  have C1 := AllocNo_h H2 0 rfl (aw_ok1.more (by omega)) false false
  rw [aw_2] at C1
  go_wp2_with fail
  refine C1.mono ?_
  clear C1
  rintro e w3 ⟨rfl, H3⟩
  have H3 : Heap w0 w3 [areP a aw1] := H3
  have C1 := Free_h H3 0 rfl (aw_ok1.ok (by omega)) (by decide) 1099511627777
  rw [aw_3] at C1
  go_wp2_with fail
  refine C1.mono ?_
  clear C1
  rintro e w4 ⟨rfl, H4⟩
  have H4 : Heap w0 w4 [areP a aw2] := H4
  have C1 := AllocNo_h H4 0 rfl (aw_ok2.more (by omega)) false false
  rw [aw_4] at C1
  go_wp2_with fail
  refine C1.mono ?_
  clear C1
  rintro e w5 ⟨rfl, H5⟩
  have H5 : Heap w0 w5 [areP a aw3] := H5
  have C1 := Look_h H5 0 rfl (aw_ok3.ok (by omega)) aw_ok3.nds 1099511627777
  rw [aw_5] at C1
  go_wp2_with fail
  refine C1.mono ?_
  clear C1
  rintro e w6 ⟨vp, vk, vn, rfl, H6⟩
  obtain ⟨b1, d1, rfl, _, _⟩ := (H6.row 1 rfl).form
  obtain ⟨b2, d2, rfl, _, _⟩ := (H6.row 2 rfl).form
  obtain ⟨b3, d3, rfl, _, _⟩ := (H6.row 3 rfl).form
  unfold ndV noNd
  have hfld := field_tagged false false b1 b2 b3 0 0 0 d1 d2 d3 w6
  have C1 := Faults_h H6.first 0 rfl
  go_wp2_with fail
  refine C1.mono ?_
  rintro e w7 ⟨rfl, hw⟩
  have hw := hw.symm
  subst hw
  go_wp2_with fail
  go_ret
  exact ⟨rfl, H6.fr⟩
/-- An arena in which n places were made, none freed. -/
structure Full (ar : Ar) (n : Nat) (m : Int) : Prop where
  ok : OkN ar n
  free : ar.free = []
  used : ar.used = n
  len : ar.slots.length = n
  most : ar.most = m
  faults : ar.faults = 0
theorem Full.next {ar : Ar} {n : Nat} {m : Int} (h : Full ar n m) (nd : Nd) (hnd : nd.few) (hn : (n : Int) < m) : (allocAr nd ar).1 = (refOf n 1, true) ∧ Full (allocAr nd ar).2 (n + 1) m := by
  have e := alloc_next nd (ar := ar) (by rw [h.most, h.used]; omega) h.free
  have o := h.ok.alloc nd hnd
  rw [e] at o ⊢
  refine ⟨by rw [h.len], o, h.free, by simp only [h.used]; omega, by simp [h.len], h.most, h.faults⟩
theorem ArenaFull_walk (most : Int) (hm : -9223372036854775808 ≤ most ∧ most ≤ 9223372036854775807) (t : Int) (ht : 0 ≤ t ∧ t ≤ 255) (w : World) :
    Calls Try.prog 5 #[.int .i64 most, .int .u8 t] w fun e w' => e = .returned (.bool true) ∧ Below w.heap.size w w' := by
  obtain ⟨t0, t1⟩ := ht
  obtain ⟨hm0, hm1⟩ := hm
  go_enter Try.func5, Try.ntmps5
  go_wp2_with fail
  refine (Awake_calls w _ (Fr.refl _ _)).mono ?_
  rintro e w1 ⟨rfl, F1⟩
  have H1 : Heap w w1 [] := (Heap.start w).go F1
  clear F1
  go_wp2_with fail
  refine (New_h H1 most).mono ?_
  rintro e w2 ⟨rfl, H2⟩
  generalize w1.heap.size = a at *
  have H2 : Heap w w2 [areP a (newAr most)] := H2
  have F0 : Full (newAr most) 0 (limAr most) := ⟨OkN.new most, rfl, rfl, rfl, rfl, rfl⟩
  have hL : 0 ≤ limAr most ∧ limAr most ≤ 65536 := by unfold limAr; omega
  go_upto_region 4 with fail
  go_cut [6] (fun s6 wx => s6 = .int .i64 (limAr most) ∧ wx = w2)
  case first =>
    go_wp2_with fail
    all_goals
      go_meet
      first | exact ⟨by rw [show limAr most = 0 from (by unfold limAr; omega)], rfl⟩ | exact ⟨by rw [show limAr most = 65536 from (by unfold limAr; omega)], rfl⟩ | exact ⟨by rw [show limAr most = most from (by unfold limAr; omega)], rfl⟩
  case rest =>
    obtain ⟨rfl, rfl⟩ := hcut
    generalize newAr most = s0 at *
    generalize limAr most = m at *
    obtain ⟨l0, l1⟩ := hL
    go_wp2_with fail
    go_loopw [7, 18] (fun n i wr => ∃ (k j : Nat) (ar : Ar), (k : Int) ≤ t ∧ i = .int .u8 k ∧ n = .int .i64 j ∧ j ≤ k ∧ (j : Int) ≤ m ∧ (j = k ∨ (j : Int) = m) ∧ Full ar j m ∧ Heap w wr [areP a ar]) (fun _ i _ => (t - intOf i).toNat)
    case atStart => exact ⟨0, 0, s0, by omega, rfl, rfl, Nat.le_refl _, by omega, .inl rfl, F0, H2⟩
    case round =>
      obtain ⟨k, j, ar, hk, rfl, rfl, hj, hjm, hjk, F, H⟩ := hrel
      by_cases hlt : (k : Int) < t
      · by_cases hroom : (j : Int) < m
        · have hjk' : j = k := by omega
          obtain ⟨e1, F'⟩ := F.next ⟨false, false, [], [], []⟩ ⟨Nat.zero_le _, Nat.zero_le _, Nat.zero_le _⟩ hroom
          have C1 := AllocNo_h H 0 rfl (F.ok.more (by omega)) false false
          rw [e1] at C1
          have hr : (refOf (j : Nat) 1 == 0) = false := by unfold refOf; simp; omega
          generalize refOf (j : Nat) 1 = q at *
          generalize (allocAr ⟨false, false, [], [], []⟩ ar).2 = ar' at *
          have CC := Lib.hid C1
          have FF := Lib.hid F'
          clear C1 F F' e1 H hjk
          go_wp2_with fail
          refine CC.out.mono ?_
          rintro e w5 ⟨rfl, H5⟩
          go_wp2_with fail
          exact ⟨⟨k + 1, j + 1, ar', by omega, by go_num, by go_num, by omega, by omega, .inl (by omega), FF.out, H5⟩, by simp [intOf]; omega⟩
        · have hjm' : (j : Int) = m := by omega
          have e1 := alloc_full ⟨false, false, [], [], []⟩ (ar := ar) (by rw [F.most, F.used]; omega)
          have C1 := AllocNo_h H 0 rfl (F.ok.more (by omega)) false false
          rw [e1] at C1
          have hd : decide ((j : Int) < m) = false := by simpa using hroom
          have CC := Lib.hid C1
          have FF := Lib.hid F
          have HJ := Lib.hid hjm'
          clear C1 F e1 H hjk hjm' hroom
          go_wp2_with fail
          refine CC.out.mono ?_
          rintro e w5 ⟨rfl, H5⟩
          go_wp2_with fail
          exact ⟨⟨k + 1, j, ar, by omega, by go_num, rfl, by omega, by omega, .inr HJ.out, FF.out, H5⟩, by simp [intOf]; omega⟩
      · have C1 := Lib.hid (fun w' (h : Heap w w' [areP a ar]) => Most_h h 0 rfl)
        have C2 := Used_h H 0 rfl
        have C3 := Faults_h H 0 rfl
        have C0 := Most_h H 0 rfl
        rw [F.most] at C0
        rw [F.used] at C2
        rw [F.faults] at C3
        have D0 := Lib.hid C0
        have D2 := Lib.hid C2
        have D3 := Lib.hid C3
        clear C0 C1 C2 C3 F hjk
        go_wp2_with (first
          | (go_at_call 21; refine D0.out.mono ?_; rintro e w' ⟨rfl, hw⟩; have hw := hw.symm; subst hw)
          | (go_at_call 16; refine D2.out.mono ?_; rintro e w' ⟨rfl, hw⟩; have hw := hw.symm; subst hw)
          | (go_at_call 22; refine D3.out.mono ?_; rintro e w' ⟨rfl, hw⟩; have hw := hw.symm; subst hw))
        go_ret
        exact ⟨rfl, H.below⟩
end Go.Proofs.Ytolkpmbmgiplcaa
