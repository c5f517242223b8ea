/- boscagelaw11.Parts: the groups, counted: its contract. No condition but the bounds of size. -/
import Derived.Test.YtkbnoceekileiaaFrn
namespace Go.Proofs.Ytkbnoceekileiaa
open Go Go.RowKit
set_option linter.unusedVariables false
set_option linter.unusedSimpArgs false
set_option maxRecDepth 100000
theorem part_lt {n b i m : Nat} (hi : i < partK n b) (hm : m < partAt n b i) : i + partK n b * m < n := by
  have h := Nat.div_add_mod n (partK n b)
  unfold partAt at hm
  generalize hq : n / partK n b = q at h hm
  generalize hr : n % partK n b = r at h hm
  generalize partK n b = k at *
  have h1 : k * m ≤ k * q ∨ (i < r ∧ m = q) ∨ m < q := by
    by_cases hmq : m ≤ q
    · exact .inl (Nat.mul_le_mul_left k hmq)
    · split at hm <;> omega
  by_cases hir : i < r
  · rw [if_pos hir] at hm
    have : k * m ≤ k * q := Nat.mul_le_mul_left k (by omega)
    omega
  · rw [if_neg hir] at hm
    have h2 : k * (m + 1) ≤ k * q := Nat.mul_le_mul_left k (by omega)
    rw [Nat.mul_add] at h2
    omega
theorem part_ge {n b i : Nat} (hi : i < partK n b) : n ≤ i + partK n b * partAt n b i := by
  have h := Nat.div_add_mod n (partK n b)
  have h9 := Nat.mod_lt n (show 0 < partK n b by omega)
  unfold partAt
  generalize hq : n / partK n b = q at h
  generalize hr : n % partK n b = r at h h9
  generalize partK n b = k at *
  split
  · rw [Nat.mul_add]; omega
  · rw [Nat.add_zero]; omega
theorem partK_lt {n b k : Nat} (hb : 1 ≤ b) (h : k < partK n b) (hn : 1 ≤ n) : k * b < n := by
  unfold partK at h
  have h1 : k * b ≤ (n - 1) / b * b := Nat.mul_le_mul_right b (by omega)
  have h2 := Nat.div_mul_le_self (n - 1) b
  omega
theorem partK_ge {n b : Nat} (hb : 1 ≤ b) : n ≤ partK n b * b := by
  unfold partK
  have h1 := Nat.div_add_mod (n - 1) b
  have h2 := Nat.mod_lt (n - 1) (show 0 < b by omega)
  rw [Nat.add_mul, Nat.mul_comm ((n - 1) / b) b]
  omega
set_option maxHeartbeats 200000000 in
theorem Parts11_h (w : World) (n b : Nat) (hn : 1 ≤ n ∧ n ≤ 100000) (hb : 1 ≤ b ∧ b ≤ 1000) :
    Calls Try.prog 62 #[.int .i64 (n : Int), .int .i64 (b : Int)] w fun e w' => ∃ a c, e = .returned (.slice a (partK n b) c) ∧ Heap w w' [rowP 3 1 (.slice a (partK n b) c) (partK n b) (intsC (partsN n b))] := by
  obtain ⟨n1, n2⟩ := hn
  obtain ⟨b1, b2⟩ := hb
  have hk1 := partK_pos n b
  have hk2 := partK_le (k := n) b1 n1
  have HLT := Lib.hid (fun k (h : k < partK n b) => partK_lt (n := n) b1 h n1)
  have HGE := Lib.hid (partK_ge (n := n) b1)
  obtain ⟨k, hk⟩ : ∃ k, partK n b = k := ⟨_, rfl⟩
  have HK := Lib.hid hk
  rw [hk] at hk1 hk2 HLT HGE
  obtain ⟨i0, hi0, hz0, hz1, hz2⟩ := info_parts info_int
  have I0 := Lib.hid (And.intro hi0 (And.intro hz0 (And.intro hz1 hz2)))
  have HH := Lib.hid ((Heap.start w).rowNilF 3 1)
  clear hk hi0 hz0 hz1 hz2
  go_enter Try.func62, Try.ntmps62
  go_wp2_with fail
  go_loopw [5] (fun s5 wr => ∃ j : Nat, s5 = .int .i64 (j : Nat) ∧ j ≤ k ∧ Hid (Heap w wr [rowP 3 1 (.slice none 0 0) 0 []])) (fun s5 _ => k - (intOf s5).toNat)
  case atStart => exact ⟨0, rfl, Nat.zero_le _, HH⟩
  case round =>
  clear HH
  obtain ⟨j, rfl, hj, HH⟩ := hrel
  by_cases hlt : j < k
  · have h1 := HLT.out j hlt
    obtain ⟨p, hp⟩ : ∃ p : Nat, j * b = p := ⟨_, rfl⟩
    rw [hp] at h1
    have hpi : (j : Int) * (b : Int) = (p : Int) := by rw [← hp]; simp
    have h2 : (p : Int) < (n : Int) := by omega
    clear hp
    go_wp2_with fail
    exact ⟨⟨j + 1, by go_num, by omega, HH⟩, by simp [intOf]; omega⟩
  · obtain rfl : j = k := by omega
    have h1 := HGE.out
    obtain ⟨p, hp⟩ : ∃ p : Nat, j * b = p := ⟨_, rfl⟩
    rw [hp] at h1
    have hp2 : p ≤ 100000000 := by
      rw [← hp]
      exact Nat.le_trans (Nat.mul_le_mul (show j ≤ 100000 by omega) b2) (by decide)
    have hpi : (j : Int) * (b : Int) = (p : Int) := by rw [← hp]; simp
    have h2 : ¬ (p : Int) < (n : Int) := by omega
    clear hp
    go_wp2_with fail
    clear hpi h1 h2 hp2
    go_loopw [6, 18] (fun s6 q wr => ∃ (i : Nat) (a : Option Addr) (c : Nat), q = .int .i64 (i : Nat) ∧ i ≤ j ∧ s6 = .slice a i c ∧ Hid (Heap w wr [rowP 3 1 (.slice a i c) i (intsC ((partsN n b).take i))])) (fun _ q _ => j - (intOf q).toNat)
    case atStart => exact ⟨0, none, 0, rfl, Nat.zero_le _, rfl, HH⟩
    case round =>
    clear HH
    obtain ⟨i, a, c, rfl, hi, rfl, HH⟩ := hrel
    by_cases hli : i < j
    · have HLI := Lib.hid hli
      obtain ⟨P, hP⟩ : ∃ P, partAt n b i = P := ⟨_, rfl⟩
      have hik : i < partK n b := by rw [HK.out]; exact hli
      have HA : Hid (∀ m, m < P → i + j * m < n) := Lib.hid (fun m hm => by have := part_lt hik (by rw [hP]; exact hm); rwa [HK.out] at this)
      have HB : Hid (n ≤ i + j * P) := Lib.hid (by have := part_ge hik; rwa [HK.out, hP] at this)
      have HNX := Lib.hid (partsN_next hik)
      rw [hP] at HNX
      clear hP hik
      go_wp2_with fail
      rename World => w8
      go_loopw [8, 9] (fun s8 s9 wr => ∃ m x : Nat, s8 = .int .i64 (m : Nat) ∧ s9 = .int .i64 (x : Nat) ∧ m ≤ P ∧ m ≤ 100001 ∧ x ≤ 300000 ∧ Hid (x = i + j * m ∧ (m = 0 ∨ i + j * (m - 1) < n)) ∧ Hid (Heap w wr [rowP 3 1 (.slice a i c) i (intsC ((partsN n b).take i))])) (fun s8 _ _ => P - (intOf s8).toNat)
      case atStart => exact ⟨0, i, rfl, rfl, Nat.zero_le _, Nat.zero_le _, by omega, Lib.hid ⟨by simp, .inl rfl⟩, HH⟩
      case round =>
      clear HH
      obtain ⟨m, x, rfl, rfl, hm, hm1, hx, HX, HH⟩ := hrel
      by_cases hmp : m < P
      · have h1 := HA.out m hmp
        have h2 := HX.out.1
        have h3 : (x : Int) < (n : Int) := by omega
        have h4 : m ≤ n := by
          have : m ≤ j * m := Nat.le_mul_of_pos_left m (by omega)
          omega
        have HN : Hid (x + j = i + j * (m + 1) ∧ (m + 1 = 0 ∨ i + j * (m + 1 - 1) < n)) := Lib.hid ⟨by rw [Nat.mul_add]; omega, .inr h1⟩
        clear h1 h2 HX
        have h5 : m ≤ 100000 := by omega
        clear h4
        go_wp2_with fail
        exact ⟨⟨m + 1, x + j, by go_num, by go_num, by omega, by omega, by omega, HN, HH⟩, by simp [intOf]; omega⟩
      · obtain rfl : m = P := by omega
        have h3 : ¬ (x : Int) < (n : Int) := by have := HB.out; have := HX.out.1; omega
        have QQ := Lib.hid (HH.out.row 0 (t := 3) (sz := 1) (n := i) (v := .slice a i c) (us := intsC ((partsN n b).take i)) rfl)
        have HL := Lib.hid (show i + 1 ≤ maxLen ∧ (i + 1) * 8 ≤ 140737488355328 by unfold maxLen; omega)
        clear HX HA HB
        go_wp2_with (at_builtin; refine wpList_append_typed _ rfl _ _ _ (by rfl) 3 i0 (.int .i64 0) 1 8 Try.underlying114 I0.out.1 I0.out.2.1 I0.out.2.2.1 I0.out.2.2.2 rfl (by decide) (.slice a i c) i (intsC ((partsN n b).take i)) (by rfl) (QQ.out.fr (F := nob) (by repeat (first | exact Fr.refl _ _ | apply Fr.drew | apply Fr.alloc)) (fun _ _ _ x => x)) _ 1 [.int .i64 (m : Int)] (by rfl) (RdV.block (cs := #[.int .i64 (m : Int)]) (t := 3) (by repeat (first | exact Blk.new' rfl _ _ | apply Blk.drew | apply Blk.alloc)) rfl (by decide)) (by simp [Value.oneCell']) HL.out.1 HL.out.2 ?_)
        intro a2 c2 w2 q2 grow2 hat2
        have G2 := HH.out.growRow 0 (t := 3) (sz := 1) (n := i) (v := .slice a i c) (us := intsC ((partsN n b).take i)) rfl (Fr.alloc (Fr.refl nob _) (.cells #[.int .i64 (m : Int)] 3)) q2 grow2 (fun g hg => (hat2 g hg).imp_left (fun h => h.imp_right (fun h => by simpa using h)))
        have HX : Hid (Heap w w2 [rowP 3 1 (.slice a2 (i + 1) c2) (i + 1) (intsC ((partsN n b).take (i + 1)))]) := Lib.hid (by
          rw [HNX.out, show intsC ((partsN n b).take i ++ [m]) = intsC ((partsN n b).take i) ++ [.int .i64 (m : Int)] by simp [intsC]]
          exact G2)
        clear G2 q2 grow2 hat2 QQ HH h3
        go_wp2_with fail
        exact ⟨⟨i + 1, a2, c2, by go_num, by have := HLI.out; omega, rfl, HX⟩, by have := HLI.out; simp [intOf]; omega⟩
    · obtain rfl : i = j := by omega
      have HX : Hid (Heap w wr [rowP 3 1 (.slice a i c) i (intsC (partsN n b))]) := Lib.hid (by
        have := HH.out
        rwa [List.take_of_length_le (by rw [partsN_len, HK.out]; exact Nat.le_refl _)] at this)
      clear HH
      go_wp2_with fail
      go_ret
      rw [HK.out]
      exact ⟨a, c, rfl, HX.out⟩
end Go.Proofs.Ytkbnoceekileiaa
