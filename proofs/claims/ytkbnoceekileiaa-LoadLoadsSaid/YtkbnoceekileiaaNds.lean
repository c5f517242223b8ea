/- load.Nodes: how many nodes a tree has: its contract. No condition but the bounds of size. -/
import Derived.Test.YtkbnoceekileiaaPrt
namespace Go.Proofs.Ytkbnoceekileiaa
open Go Go.RowKit
set_option linter.unusedVariables false
set_option linter.unusedSimpArgs false
set_option maxRecDepth 100000
def nodesUp (b : Nat) : Nat → Nat → Nat
  | 0, _ => 0
  | f + 1, k => if k ≤ 1 then 0 else partK k b + nodesUp b f (partK k b)
def nodesN (n b : Nat) : Nat := if n = 0 then 1 else partK n b + nodesUp b (partK n b) (partK n b)
theorem partK_pos (n b : Nat) : 1 ≤ partK n b := Nat.le_add_left 1 _
theorem partK_less {k b : Nat} (hb : 2 ≤ b) (hk : 2 ≤ k) : partK k b < k := by
  have h1 : (k - 1) / b ≤ (k - 1) / 2 := Nat.div_le_div_left hb (by omega)
  have h2 : partK k b = (k - 1) / b + 1 := rfl
  omega
theorem nodesUp_one (b f : Nat) : nodesUp b f 1 = 0 := by cases f <;> simp [nodesUp]
theorem partK_half {k b : Nat} (hb : 2 ≤ b) : 2 * partK k b ≤ k + 1 ∨ k = 0 := by
  rcases Nat.eq_zero_or_pos k with h | h
  · exact .inr h
  · left
    unfold partK
    have h1 : (k - 1) / b ≤ (k - 1) / 2 := Nat.div_le_div_left hb (by omega)
    omega
theorem partK_le {k b : Nat} (hb : 1 ≤ b) (hk : 1 ≤ k) : partK k b ≤ k := by
  unfold partK
  have : (k - 1) / b ≤ k - 1 := Nat.div_le_self _ _
  omega
theorem nodesUp_le {b : Nat} (hb : 2 ≤ b) : ∀ f k, nodesUp b f k ≤ 2 * k
  | 0, k => by simp [nodesUp]
  | f + 1, k => by
    unfold nodesUp
    split
    · omega
    · have h1 := nodesUp_le hb f (partK k b)
      rcases partK_half (k := k) hb with h2 | h2
      · rcases (by omega : k = 2 ∨ 3 ≤ k) with rfl | h3
        · have h4 : partK 2 b = 1 := by have := partK_pos 2 b; omega
          have h5 : nodesUp b f (partK 2 b) = 0 := by rw [h4]; cases f <;> simp [nodesUp]
          omega
        · omega
      · omega
theorem Parts_zero {w : World} (b : Int) (hb : 1 ≤ b) : Calls Try.prog 57 #[.int .i64 0, .int .i64 b] w fun e w' => e = .returned (.slice none 0 0) ∧ w' = w := by
  go_enter Try.func57, Try.ntmps57
  go_wp2_with fail
  go_ret
  exact ⟨rfl, rfl⟩
theorem Nodes_h {w0 w : World} {L : List Piece} (h : Heap w0 w L) (n b : Nat) (hn : n ≤ 2097152) (hb : 2 ≤ b ∧ b ≤ 1000000) :
    Calls Try.prog 37 #[.int .i64 (n : Int), .int .i64 (b : Int)] w fun e w' => e = .returned (.int .i64 (nodesN n b : Nat)) ∧ Heap w0 w' L := by
  obtain ⟨b1, b2⟩ := hb
  rcases Nat.eq_zero_or_pos n with rfl | hn1
  · have CZ := Lib.hid (Parts_zero (w := w) (b : Int) (by omega))
    have HH := Lib.hid h
    clear h
    go_enter Try.func37, Try.ntmps37
    go_wp2_with fail
    refine CZ.out.mono ?_
    rintro e w' ⟨rfl, hw⟩
    have hw := hw.symm
    subst hw
    have HT : Hid (nodesN 0 b ≤ 10000000) := Lib.hid (by show 1 ≤ 10000000; omega)
    go_wp2_with fail
    go_loopw [5, 6] (fun s5 s6 wr => ∃ (f k al : Nat), s5 = .int .i64 (k : Nat) ∧ s6 = .int .i64 (al : Nat) ∧ 1 ≤ k ∧ k ≤ 2097152 ∧ k ≤ f ∧ al ≤ 10000000 ∧ Hid (al + nodesUp b f k = nodesN 0 b ∧ Heap w0 wr L)) (fun s5 _ _ => (intOf s5).toNat)
    case atStart => exact ⟨1, 1, 1, rfl, rfl, by omega, by omega, by omega, by omega, Lib.hid ⟨by rw [nodesUp_one]; rfl, HH.out⟩⟩
    case round =>
      clear HH
      obtain ⟨f, k, al, rfl, rfl, k1, k2, kf, hal, HQ⟩ := hrel
      by_cases hk : 1 < k
      · have hki : (1 : Int) < (k : Int) := by omega
        obtain ⟨f', rfl⟩ : ∃ f', f = f' + 1 := ⟨f - 1, by omega⟩
        have CP := Lib.hid (Parts_h HQ.out.2 k b ⟨k1, k2⟩ ⟨by omega, b2⟩)
        have q1 := partK_pos k b
        have q2 := partK_less b1 hk
        have HE : Hid (al + partK k b + nodesUp b f' (partK k b) = nodesN 0 b) := Lib.hid (by
          have h1 := HQ.out.1
          have h2 : nodesUp b (f' + 1) k = partK k b + nodesUp b f' (partK k b) := by
            show (if k ≤ 1 then 0 else partK k b + nodesUp b f' (partK k b)) = _
            rw [if_neg (by omega)]
          omega)
        obtain ⟨k3, hk3⟩ : ∃ z, partK k b = z := ⟨_, rfl⟩
        rw [hk3] at CP q1 q2 HE
        have hal2 : al + k3 ≤ 10000000 := by have := HE.out; have := HT.out; omega
        clear hk3 HQ
        go_wp2_with fail
        refine CP.out.mono ?_
        rintro e w3 ⟨a3, c3, rfl, H3⟩
        have HX : Hid (al + k3 + nodesUp b f' k3 = nodesN 0 b ∧ Heap w0 w3 L) := Lib.hid ⟨HE.out, H3.first⟩
        clear CP H3 HE
        go_wp2_with fail
        exact ⟨⟨f', k3, al + k3, rfl, by go_num, q1, by omega, by omega, hal2, HX⟩, by simp [intOf]; omega⟩
      · obtain rfl : k = 1 := by omega
        have HX : Hid (al = nodesN 0 b ∧ Heap w0 wr L) := Lib.hid ⟨by have := HQ.out.1; rw [nodesUp_one] at this; omega, HQ.out.2⟩
        clear HQ
        go_wp2_with fail
        go_ret
        rw [← HX.out.1]
        exact ⟨rfl, HX.out.2⟩
  · have CP := Lib.hid (Parts_h h n b ⟨hn1, hn⟩ ⟨by omega, b2⟩)
    have hk1 := partK_pos n b
    have hk2 : partK n b ≤ 2097152 := Nat.le_trans (partK_le (by omega) hn1) hn
    have HE : Hid (partK n b + nodesUp b (partK n b) (partK n b) = nodesN n b) := Lib.hid (by unfold nodesN; rw [if_neg (by omega)])
    have HT : Hid (nodesN n b ≤ 10000000) := Lib.hid (by rw [← HE.out]; have := nodesUp_le b1 (partK n b) (partK n b); omega)
    obtain ⟨k0, hk0⟩ : ∃ k, partK n b = k := ⟨_, rfl⟩
    rw [hk0] at CP hk1 hk2 HE
    have hmax : (1 : Int) ≤ (k0 : Int) := by omega
    clear h hk0
    go_enter Try.func37, Try.ntmps37
    go_wp2_with fail
    refine CP.out.mono ?_
    rintro e w2 ⟨a, c, rfl, H2⟩
    have HH : Hid (k0 + nodesUp b k0 k0 = nodesN n b ∧ Heap w0 w2 L) := Lib.hid ⟨HE.out, H2.first⟩
    clear CP H2 HE
    go_wp2_with fail
    go_loopw [5, 6] (fun s5 s6 wr => ∃ (f k al : Nat), s5 = .int .i64 (k : Nat) ∧ s6 = .int .i64 (al : Nat) ∧ 1 ≤ k ∧ k ≤ 2097152 ∧ k ≤ f ∧ al ≤ 10000000 ∧ Hid (al + nodesUp b f k = nodesN n b ∧ Heap w0 wr L)) (fun s5 _ _ => (intOf s5).toNat)
    case atStart => exact ⟨k0, k0, k0, rfl, rfl, hk1, hk2, Nat.le_refl _, by omega, HH⟩
    case round =>
      clear HH
      obtain ⟨f, k, al, rfl, rfl, k1, k2, kf, hal, HQ⟩ := hrel
      by_cases hk : 1 < k
      · have hki : (1 : Int) < (k : Int) := by omega
        obtain ⟨f', rfl⟩ : ∃ f', f = f' + 1 := ⟨f - 1, by omega⟩
        have CP := Lib.hid (Parts_h HQ.out.2 k b ⟨k1, k2⟩ ⟨by omega, b2⟩)
        have q1 := partK_pos k b
        have q2 := partK_less b1 hk
        have HE : Hid (al + partK k b + nodesUp b f' (partK k b) = nodesN n b) := Lib.hid (by
          have h1 := HQ.out.1
          have h2 : nodesUp b (f' + 1) k = partK k b + nodesUp b f' (partK k b) := by
            show (if k ≤ 1 then 0 else partK k b + nodesUp b f' (partK k b)) = _
            rw [if_neg (by omega)]
          omega)
        obtain ⟨k3, hk3⟩ : ∃ z, partK k b = z := ⟨_, rfl⟩
        rw [hk3] at CP q1 q2 HE
        have hal2 : al + k3 ≤ 10000000 := by have := HE.out; have := HT.out; omega
        clear hk3 HQ
        go_wp2_with fail
        refine CP.out.mono ?_
        rintro e w3 ⟨a3, c3, rfl, H3⟩
        have HX : Hid (al + k3 + nodesUp b f' k3 = nodesN n b ∧ Heap w0 w3 L) := Lib.hid ⟨HE.out, H3.first⟩
        clear CP H3 HE
        go_wp2_with fail
        exact ⟨⟨f', k3, al + k3, rfl, by go_num, q1, by omega, by omega, hal2, HX⟩, by simp [intOf]; omega⟩
      · obtain rfl : k = 1 := by omega
        have HX : Hid (al = nodesN n b ∧ Heap w0 wr L) := Lib.hid ⟨by have := HQ.out.1; rw [nodesUp_one] at this; omega, HQ.out.2⟩
        clear HQ
        go_wp2_with fail
        go_ret
        rw [← HX.out.1]
        exact ⟨rfl, HX.out.2⟩
end Go.Proofs.Ytkbnoceekileiaa
