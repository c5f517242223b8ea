/- For all numbers load.Nodes tells how many nodes there are (printed statement of LoadNodes). No condition. -/
import Derived.Test.YtfhnlgafdgnbgaaPLoadNodesx2
import Derived.OpenShut
namespace Go.Proofs.Ytfhnlgafdgnbgaa.Pure
open Go.RowKit Go.Proofs.Ytfhnlgafdgnbgaa.PLoadNodes Go.Proofs.YtfhnlgafdgnbgaaW.PrintWords Go.Proofs.YtfhnlgafdgnbgaaW.PrintLast

theorem tdiv_nat (a b : Nat) : Int.tdiv (a : Int) (b : Int) = ((a / b : Nat) : Int) := rfl
theorem tmod_nat (a b : Nat) : Int.tmod (a : Int) (b : Int) = ((a % b : Nat) : Int) := rfl
theorem w64 {x : Int} (h0 : -9223372036854775808 ≤ x) (h1 : x ≤ 9223372036854775807) : wrap64 x = x := by unfold wrap64; omega
def gsz (n k i : Nat) : Int := ((n / k + (if i < n % k then 1 else 0) : Nat) : Int)
def cnt (n m : Nat) : Nat := (n - 1) / m + 1
def groups (n m : Nat) : List Int := (List.range' 0 (cnt n m)).map (gsz n (cnt n m))
theorem w64n {x : Nat} (h1 : x ≤ 9223372036854775807) : wrap64 (x : Int) = x := by unfold wrap64; omega
theorem wsucc {x : Nat} (h1 : x + 1 ≤ 9223372036854775807) : wrap64 ((x : Int) + 1) = ((x + 1 : Nat) : Int) := w64n h1
theorem wadd {x y : Nat} (h1 : x + y ≤ 9223372036854775807) : wrap64 ((x : Int) + (y : Int)) = ((x + y : Nat) : Int) := w64n h1
theorem wmul {x y : Nat} (h1 : x * y ≤ 9223372036854775807) : wrap64 ((x : Int) * (y : Int)) = ((x * y : Nat) : Int) := by rw [← Int.natCast_mul]; exact w64n h1
theorem wpred {x : Nat} (h0 : 1 ≤ x) (h1 : x ≤ 9223372036854775807) : wrap64 ((x : Int) - 1) = ((x - 1 : Nat) : Int) := by rw [w64 (by omega) (by omega)]; omega
theorem wdiv {x y : Nat} (h1 : x ≤ 9223372036854775807) : wrap64 (Int.tdiv (x : Int) (y : Int)) = ((x / y : Nat) : Int) := w64n (Nat.le_trans (Nat.div_le_self _ _) h1)
theorem cnt_pos (n m : Nat) : 1 ≤ cnt n m := Nat.le_add_left _ _
theorem cnt_le {n m : Nat} (hn : 1 ≤ n) : cnt n m ≤ n := by
  unfold cnt; have := Nat.div_le_self (n - 1) m; omega
theorem groups_length (n m : Nat) : (groups n m).length = cnt n m := by simp [groups]
theorem gsz_last {n k : Nat} (hk : 1 ≤ k) : gsz n k (k - 1) = ((n / k : Nat) : Int) := by
  unfold gsz; have := Nat.mod_lt n hk; rw [if_neg (by omega)]; simp
theorem parts_l0 (n kk : Nat) (hn : n ≤ 2097152) (hk : 1 ≤ kk) (hkn : kk ≤ n) (d : Nat) : ∀ (i : Nat) (acc : List Int) (K : Nat), i + d = kk → acc.length = i → d < K →
    load_Parts.l0 K n kk acc kk i = some (acc ++ (List.range' i d).map (gsz n kk)) := by
  induction d with
  | zero =>
    intro i acc K hi ha hK
    obtain ⟨K, rfl⟩ : ∃ m, K = m + 1 := ⟨K - 1, by omega⟩
    simp only [load_Parts.l0]; rw [if_neg (by omega)]; simp
  | succ d ih =>
    intro i acc K hi ha hK
    obtain ⟨K, rfl⟩ : ∃ m, K = m + 1 := ⟨K - 1, by omega⟩
    have hq : n / kk ≤ n := Nat.div_le_self _ _
    have hr : List.range' i (d + 1) = i :: List.range' (i + 1) d := rfl
    simp only [load_Parts.l0]
    rw [if_pos (by omega), if_neg (by omega), tmod_nat, wdiv (by omega), wsucc (x := i) (by omega)]
    by_cases hc : i < n % kk
    · rw [if_pos (by omega), if_pos (by omega), ih (i + 1) _ K (by omega) (by simp [ha]) (by omega), wsucc (by omega), hr, List.map_cons, List.append_assoc]
      simp [gsz, hc]
    · rw [if_neg (by omega), if_pos (by omega), ih (i + 1) _ K (by omega) (by simp [ha]) (by omega), hr, List.map_cons, List.append_assoc]
      simp [gsz, hc]
theorem cnt_w {n m : Nat} (h0 : 1 ≤ n) (hn : n ≤ 2097152) : wrap64 ((wrap64 (Int.tdiv (wrap64 ((n : Int) - 1)) (m : Int))) + 1) = ((cnt n m : Nat) : Int) := by
  have hq : (n - 1) / m ≤ n - 1 := Nat.div_le_self _ _
  rw [wpred h0 (by omega), wdiv (by omega)]
  exact wsucc (by omega)
theorem parts_f (n m : Nat) (hn1 : 1 ≤ n) (hn : n ≤ 2097152) (hm : 1 ≤ m) (K : Nat) (hK : n + 1 < K) :
    load_Parts.f K n m = some (groups n m) := by
  obtain ⟨K, rfl⟩ : ∃ x, K = x + 1 := ⟨K - 1, by omega⟩
  have hc := cnt_le (m := m) hn1
  have hc1 : 1 ≤ cnt n m := cnt_pos n m
  unfold load_Parts.f
  rw [if_neg (by omega), if_neg (by omega)]
  simp only [load_Parts.j0]
  have hd : decide ((m : Int) < 1) = false := by simp; omega
  rw [hd, if_neg (by simp), if_neg (by omega), cnt_w hn1 hn]
  exact parts_l0 n (cnt n m) hn hc1 hc (cnt n m) 0 [] K (by omega) rfl (by omega)
theorem parts_none (n m : Int) (h : n < 1 ∨ 2097152 < n ∨ m < 1) (K : Nat) (hK : 0 < K) : load_Parts.f K n m = some [] := by
  obtain ⟨K, rfl⟩ : ∃ x, K = x + 1 := ⟨K - 1, by omega⟩
  unfold load_Parts.f
  by_cases h1 : n < 1
  · rw [if_pos h1]; simp [load_Parts.j0]
  · rw [if_neg h1]
    by_cases h2 : n > 2097152
    · rw [if_pos h2]; simp [load_Parts.j0]
    · have hd : decide (m < 1) = true := by simp; omega
      rw [if_neg h2, hd]; simp [load_Parts.j0]
theorem awake (K : Nat) (hK : 40 ≤ K) : boscagelaw20_Awake.f K = some true :=
  at_rounds boscagelaw20_Awake.mono hK (by decide +kernel)
theorem div_shift {n k i : Nat} (hk : 1 ≤ k) (hkn : k ≤ n) (hi : i < k) : (n - 1 - i) / k + 1 = n / k + (if i < n % k then 1 else 0) := by
  have hm := Nat.div_add_mod n k
  have hr := Nat.mod_lt n hk
  have hq : 1 ≤ n / k := (Nat.one_le_div_iff hk).2 hkn
  generalize n / k = q at hm hq ⊢
  generalize n % k = r at hm hr ⊢
  obtain ⟨q, rfl⟩ : ∃ x, q = x + 1 := ⟨q - 1, by omega⟩
  have hkq : k * (q + 1) = k * q + k := Nat.mul_succ k q
  by_cases h : i < r
  · rw [if_pos h]
    have : (n - 1 - i) / k = q + 1 := by
      rw [show n - 1 - i = (r - 1 - i) + k * (q + 1) from by omega, Nat.add_mul_div_left _ _ hk, Nat.div_eq_of_lt (by omega)]; omega
    omega
  · rw [if_neg h]
    have : (n - 1 - i) / k = q := by
      rw [show n - 1 - i = (k + r - 1 - i) + k * q from by omega, Nat.add_mul_div_left _ _ hk, Nat.div_eq_of_lt (by omega)]; omega
    omega
/-- The innermost loop counts x, x + k, .. below n. -/
theorem law_l2 (n kk : Nat) (hn : n ≤ 20000) (hk : 1 ≤ kk) (hkn : kk ≤ n) (acc : List Int) (hacc : acc.length < 17592186044416) (i : Nat) (d : Nat) : ∀ (x m K : Nat), x ≤ n + kk → m ≤ x → (n + kk - x) ≤ d → n + d < K →
    ∃ K', K' + d + 1 ≥ K ∧ boscagelaw11_Parts.l2 K n kk acc m x kk i = boscagelaw11_Parts.l1 K' n kk (acc ++ [((m + (if x < n then (n - 1 - x) / kk + 1 else 0) : Nat) : Int)]) kk (wrap64 ((i : Int) + 1)) := by
  induction d with
  | zero =>
    intro x m K hx hm hd hK
    obtain ⟨K, rfl⟩ : ∃ y, K = y + 1 := ⟨K - 1, by omega⟩
    refine ⟨K, by omega, ?_⟩
    simp only [boscagelaw11_Parts.l2]
    rw [if_neg (by omega), if_pos hacc, if_neg (by omega), Nat.add_zero]
  | succ d ih =>
    intro x m K hx hm hd hK
    obtain ⟨K, rfl⟩ : ∃ y, K = y + 1 := ⟨K - 1, by omega⟩
    by_cases hlt : x < n
    · obtain ⟨K', h1, h2⟩ := ih (x + kk) (m + 1) K (by omega) (by omega) (by omega) (by omega)
      refine ⟨K', by omega, ?_⟩
      simp only [boscagelaw11_Parts.l2]
      rw [if_pos (by omega), wsucc (x := m) (by omega), wadd (by omega), h2, if_pos hlt]
      clear h2 ih
      have e3 : m + 1 + (if x + kk < n then (n - 1 - (x + kk)) / kk + 1 else 0) = m + ((n - 1 - x) / kk + 1) := by
        by_cases h : x + kk < n
        · rw [if_pos h]
          have e4 : n - 1 - x = (n - 1 - (x + kk)) + kk := by omega
          rw [e4, Nat.add_div_right _ hk]; omega
        · rw [if_neg h, Nat.div_eq_of_lt (by omega)]
      rw [e3]
    · refine ⟨K, by omega, ?_⟩
      simp only [boscagelaw11_Parts.l2]
      rw [if_neg (by omega), if_pos hacc, if_neg hlt, Nat.add_zero]
theorem law_l1 (n kk : Nat) (hn : n ≤ 20000) (hk : 1 ≤ kk) (hkn : kk ≤ n) (d : Nat) : ∀ (i : Nat) (acc : List Int) (K : Nat), i + d = kk → acc.length = i → (d + 1) * (2 * n + kk + 3) < K →
    boscagelaw11_Parts.l1 K n kk acc kk i = some (acc ++ (List.range' i d).map (gsz n kk)) := by
  induction d with
  | zero =>
    intro i acc K hi ha hK
    obtain ⟨K, rfl⟩ : ∃ m, K = m + 1 := ⟨K - 1, by omega⟩
    simp only [boscagelaw11_Parts.l1]; rw [if_neg (by omega)]; simp
  | succ d ih =>
    intro i acc K hi ha hK
    obtain ⟨K, rfl⟩ : ∃ m, K = m + 1 := ⟨K - 1, by omega⟩
    have hmul : (d + 1 + 1) * (2 * n + kk + 3) = (d + 1) * (2 * n + kk + 3) + (2 * n + kk + 3) := Nat.succ_mul _ _
    obtain ⟨K', h1, h2⟩ := law_l2 n kk hn hk hkn acc (by omega) i (n + kk - i) i 0 K (by omega) (by omega) (by omega) (by omega)
    have hr : List.range' i (d + 1) = i :: List.range' (i + 1) d := rfl
    have hs := div_shift (n := n) hk hkn (i := i) (by omega)
    have h3 := ih (i + 1) (acc ++ [gsz n kk i]) K' (by omega) (by simp [ha]) (by omega)
    rw [if_pos (show i < n by omega), Nat.zero_add, hs, wsucc (by omega)] at h2
    simp only [boscagelaw11_Parts.l1]
    rw [if_pos (show (i : Int) < (kk : Int) by omega)]
    refine h2.trans (h3.trans ?_)
    rw [hr, List.map_cons, List.append_assoc, List.singleton_append]
theorem law_l0 (n m : Nat) (hn1 : 1 ≤ n) (hn : n ≤ 20000) (hm : 1 ≤ m) (hm2 : m ≤ 9223372036854775807) (d : Nat) : ∀ (j K : Nat), j + d = cnt n m → n * (3 * n + 10) + 10 * n + 20 + d < K →
    boscagelaw11_Parts.l0 K n m j = some (groups n m) := by
  have hc := cnt_le (m := m) hn1
  have hcm : (cnt n m - 1) * m < n := by
    unfold cnt; rw [Nat.add_sub_cancel]
    have := Nat.div_mul_le_self (n - 1) m; omega
  have hcm2 : n ≤ cnt n m * m := by
    unfold cnt
    have h1 := Nat.div_add_mod (n - 1) m; have h2 := Nat.mod_lt (n - 1) hm
    rw [Nat.succ_mul, Nat.mul_comm]; omega
  induction d with
  | zero =>
    intro j K hj hK
    obtain ⟨K, rfl⟩ : ∃ x, K = x + 1 := ⟨K - 1, by omega⟩
    have hj' : j = cnt n m := by omega
    subst hj'
    have hb : cnt n m * m ≤ 9223372036854775807 := by
      by_cases h1 : m ≤ 40000
      · calc cnt n m * m ≤ 20000 * 40000 := Nat.mul_le_mul (by omega) h1
          _ ≤ _ := by decide
      · have : cnt n m = 1 := by unfold cnt; rw [Nat.div_eq_of_lt (by omega)]
        rw [this]; omega
    simp only [boscagelaw11_Parts.l0]
    rw [wmul hb, if_neg (by omega)]
    have hc1 : 1 ≤ cnt n m := cnt_pos n m
    have hmul : (cnt n m + 1) * (2 * n + cnt n m + 3) ≤ (n + 1) * (3 * n + 3) := Nat.mul_le_mul (by omega) (by omega)
    have hmul2 : (n + 1) * (3 * n + 3) ≤ n * (3 * n + 10) + 10 * n + 10 := by
      have h1 : (n + 1) * (3 * n + 3) = n * (3 * n + 3) + (3 * n + 3) := Nat.succ_mul _ _
      have h2 : n * (3 * n + 3) ≤ n * (3 * n + 10) := Nat.mul_le_mul_left _ (by omega)
      omega
    exact law_l1 n (cnt n m) hn hc1 hc (cnt n m) 0 [] K (by omega) rfl (by omega)
  | succ d ih =>
    intro j K hj hK
    obtain ⟨K, rfl⟩ : ∃ x, K = x + 1 := ⟨K - 1, by omega⟩
    have hjm : j * m ≤ (cnt n m - 1) * m := Nat.mul_le_mul_right _ (by omega)
    simp only [boscagelaw11_Parts.l0]
    rw [wmul (by omega), if_pos (by omega), wsucc (by omega)]
    exact ih (j + 1) K (by omega) (by omega)
theorem law_parts (n m : Nat) (hn1 : 1 ≤ n) (hn : n ≤ 20000) (hm : 1 ≤ m) (hm2 : m ≤ 9223372036854775807) (K : Nat) (hK : n * (3 * n + 10) + 11 * n + 30 < K) :
    boscagelaw11_Parts.f K n m = some (groups n m) := by
  have hc := cnt_le (m := m) hn1
  unfold boscagelaw11_Parts.f
  exact law_l0 n m hn1 hn hm hm2 (cnt n m) 0 K (by omega) (by omega)
theorem cnt_one {n m : Nat} (h1 : 1 ≤ n) (h : n ≤ m) : cnt n m = 1 := by unfold cnt; rw [Nat.div_eq_of_lt (by omega)]
theorem cnt_half {n m : Nat} (hm : 2 ≤ m) : 2 * cnt n m ≤ n - 1 + 2 := by
  unfold cnt
  have h := Nat.div_mul_le_self (n - 1) m
  have h2 : (n - 1) / m * 2 ≤ (n - 1) / m * m := Nat.mul_le_mul_left _ hm
  omega
theorem cnt_two {n m : Nat} (hm : 1 ≤ m) (h : m < n) : 2 ≤ cnt n m := by
  unfold cnt
  have := (Nat.one_le_div_iff (a := n - 1) hm).2 (by omega)
  omega
/-- From k on both loops add the same, but for the root. -/
theorem both (b : Nat) (hb : 2 ≤ b) (hb2 : b ≤ 9223372036854775807) (d : Nat) : ∀ k : Nat, k ≤ d → 2 ≤ k → k ≤ 2097152 →
    ∃ s : Nat, 1 ≤ s ∧ s ≤ 2 * k ∧ (∀ (a K : Nat), a + 2 * k ≤ 1000000000 → 30000000 + k < K → load_Nodes.l0 K b k a = some ((a + s : Nat) : Int)) ∧
      (k ≤ 3000 → ∀ (w K : Nat) (got : Int), w + 2 * k ≤ 1000000000 → 30000000 + k < K → boscagelaw20_LoadNodes.l0 K b got w k = some (got == ((w + (s - 1) : Nat) : Int))) := by
  induction d with
  | zero => intro k h1 h2; omega
  | succ d ih =>
    intro k hkd hk2 hkm
    by_cases hkb : k ≤ b
    · refine ⟨1, by omega, by omega, ?_, ?_⟩
      · intro a K ha hK
        obtain ⟨K, rfl⟩ : ∃ x, K = x + 2 := ⟨K - 2, by omega⟩
        simp only [load_Nodes.l0]
        rw [if_pos (by omega), parts_f k b (by omega) hkm (by omega) (K + 1) (by omega), Option.bind_some, groups_length, cnt_one (by omega) hkb, wadd (by omega), if_neg (by omega)]
      · intro _ w K got hw hK
        obtain ⟨K, rfl⟩ : ∃ x, K = x + 1 := ⟨K - 1, by omega⟩
        simp only [boscagelaw20_LoadNodes.l0]
        rw [if_neg (by omega)]; rfl
    · have hh := cnt_half (n := k) hb
      have h2 := cnt_two (n := k) (m := b) (by omega) (by omega)
      obtain ⟨s, hs1, hs2, hc, hl⟩ := ih (cnt k b) (by omega) h2 (by omega)
      refine ⟨cnt k b + s, by omega, by omega, ?_, ?_⟩
      · intro a K ha hK
        obtain ⟨K, rfl⟩ : ∃ x, K = x + 1 := ⟨K - 1, by omega⟩
        simp only [load_Nodes.l0]
        rw [if_pos (by omega), parts_f k b (by omega) hkm (by omega) K (by omega), Option.bind_some, groups_length, wadd (by omega), hc (a + cnt k b) K (by omega) (by omega), Nat.add_assoc]
      · intro hk3 w K got hw hK
        obtain ⟨K, rfl⟩ : ∃ x, K = x + 1 := ⟨K - 1, by omega⟩
        have hm : k * (3 * k + 10) ≤ 3000 * 9010 := Nat.mul_le_mul hk3 (by omega)
        simp only [boscagelaw20_LoadNodes.l0]
        rw [if_pos (by omega), law_parts k b (by omega) (by omega) (by omega) (by omega) K (by omega), Option.bind_some, groups_length, wadd (by omega), hl (by omega) (w + cnt k b) K got (by omega) (by omega), show w + cnt k b + (s - 1) = w + (cnt k b + s - 1) from by omega]
theorem nodes_none (n b : Int) (h : b < 2 ∨ n < 0 ∨ 2097152 < n) (K : Nat) (hK : 0 < K) : load_Nodes.f K n b = some 0 := by
  obtain ⟨K, rfl⟩ : ∃ x, K = x + 1 := ⟨K - 1, by omega⟩
  unfold load_Nodes.f
  by_cases h1 : b < 2
  · rw [if_pos h1]; simp [load_Nodes.j0]
  · rw [if_neg h1]
    by_cases h2 : n < 0
    · rw [if_pos h2]; simp [load_Nodes.j0]
    · have hd : decide (n > 2097152) = true := by simp; omega
      rw [if_neg h2, hd]; simp [load_Nodes.j0]
theorem nodes_f (n b : Nat) (hb : 2 ≤ b) (hb2 : b ≤ 9223372036854775807) (hn : n ≤ 2097152) (K : Nat) (hK : 40000000 < K) :
    ∃ s : Nat, 1 ≤ s ∧ load_Nodes.f K n b = some (s : Int) ∧ (n ≤ 3000 → boscagelaw20_LoadNodes.l0 K b s 1 n = some true) := by
  obtain ⟨K, rfl⟩ : ∃ x, K = x + 2 := ⟨K - 2, by omega⟩
  have hd : decide ((n : Int) > 2097152) = false := by simp; omega
  have hj : ∀ r, load_Nodes.j0 (K + 2) n b false = r → load_Nodes.f (K + 2) n b = r := by
    intro r h; unfold load_Nodes.f; rw [if_neg (by omega), if_neg (by omega), hd]; exact h
  by_cases h2 : 2 ≤ n
  · obtain ⟨s, hs1, hs2, hc, hl⟩ := both b hb hb2 n n (by omega) h2 hn
    refine ⟨s, hs1, ?_, ?_⟩
    · refine hj _ ?_
      have hcc := hc 0 (K + 2) (by omega) (by omega)
      simp only [load_Nodes.l0] at hcc
      rw [if_pos (by omega), parts_f n b (by omega) hn (by omega) (K + 1) (by omega), Option.bind_some, groups_length, show ((0 : Nat) : Int) + ((cnt n b : Nat) : Int) = ((cnt n b : Nat) : Int) from by omega, w64n (by have := cnt_le (m := b) (show 1 ≤ n by omega); omega)] at hcc
      simp only [load_Nodes.j0]
      have hp := cnt_pos n b
      rw [if_neg (by simp), parts_f n b (by omega) hn (by omega) (K + 1) (by omega), Option.bind_some, groups_length, show mx ((cnt n b : Nat) : Int) 1 = ((cnt n b : Nat) : Int) from by unfold mx; omega]
      simp only [load_Nodes.l0]
      rw [hcc, Nat.zero_add]
    · intro h3
      rw [show (1 : Int) = ((1 : Nat) : Int) from rfl, hl h3 1 (K + 2) s (by omega) (by omega), show 1 + (s - 1) = s from by omega]; simp
  · refine ⟨1, by omega, hj _ ?_, ?_⟩
    · simp only [load_Nodes.j0]
      rw [if_neg (by simp)]
      by_cases h0 : n = 0
      · subst h0
        rw [parts_none _ _ (.inl (by omega)) (K + 1) (by omega), Option.bind_some]
        simp [load_Nodes.l0, mx]
      · rw [parts_f n b (by omega) hn (by omega) (K + 1) (by omega), Option.bind_some, groups_length, cnt_one (by omega) (by omega)]
        simp [load_Nodes.l0, mx]
    · intro _
      simp only [boscagelaw20_LoadNodes.l0]
      rw [if_neg (by omega)]; rfl
theorem LoadNodes : boscagelaw20_LoadNodes.Pure := by
  intro a0 a1 h0 h1
  have hb0 := bounds_i64 h0
  have hb1 := bounds_i64 h1
  refine ⟨50000001, ?_⟩
  unfold boscagelaw20_LoadNodes.f
  rw [awake _ (by omega), Option.bind_some, if_pos rfl]
  by_cases hz : a1 < 2 ∨ a0 < 0 ∨ 2097152 < a0
  · rw [nodes_none a0 a1 hz _ (by omega), Option.bind_some]
    by_cases c1 : a1 < 2
    · rw [if_pos c1]; simp [boscagelaw20_LoadNodes.j0]
    · rw [if_neg c1]
      by_cases c2 : a0 < 0
      · rw [if_pos c2]; simp [boscagelaw20_LoadNodes.j0]
      · have hd : decide (a0 > 2097152) = true := by simp; omega
        rw [if_neg c2, hd]; simp [boscagelaw20_LoadNodes.j0]
  · obtain ⟨n, rfl⟩ := Int.eq_ofNat_of_zero_le (a := a0) (by omega)
    obtain ⟨b, rfl⟩ := Int.eq_ofNat_of_zero_le (a := a1) (by omega)
    obtain ⟨s, hs, hf, _⟩ := nodes_f n b (by omega) (by omega) (by omega) 50000001 (by omega)
    obtain ⟨s', _, hf', hl⟩ := nodes_f n b (by omega) (by omega) (by omega) 50000000 (by omega)
    have hss : s = s' := by
      have := load_Nodes.mono _ _ _ _ hf'
      rw [hf] at this; exact Int.ofNat.inj (Option.some.inj this)
    subst hss
    have hd : decide ((n : Int) > 2097152) = false := by simp; omega
    rw [hf, Option.bind_some, if_neg (by omega), if_neg (by omega), hd]
    simp only [boscagelaw20_LoadNodes.j0]
    rw [if_neg (by simp)]
    by_cases h3 : (n : Int) > 3000
    · rw [if_pos h3, show decide ((s : Int) > 0) = true from by simp; omega]
    · rw [if_neg h3]; exact hl (by omega)

end Go.Proofs.Ytfhnlgafdgnbgaa.Pure
