/- For all numbers below 2^16 the groups of load.Parts are even and as few as may be (printed statement of LoadEven). No condition. -/
import Derived.Test.YtfhnlgafdgnbgaaPLoadEvenx2
import Derived.OpenShut
namespace Go.Proofs.Ytfhnlgafdgnbgaa.Pure
open Go.RowKit Go.Proofs.Ytfhnlgafdgnbgaa.PLoadEven Go.Proofs.YtfhnlgafdgnbgaaW.PrintWords Go.Proofs.YtfhnlgafdgnbgaaW.PrintLast

theorem tdiv_nat (a b : Nat) : Int.tdiv (a : Int) (b : Int) = ((a / b : Nat) : Int) := rfl
theorem tmod_nat (a b : Nat) : Int.tmod (a : Int) (b : Int) = ((a % b : Nat) : Int) := rfl
theorem w64 {x : Int} (h0 : -9223372036854775808 ≤ x) (h1 : x ≤ 9223372036854775807) : wrap64 x = x := by unfold wrap64; omega
def gsz (n k i : Nat) : Int := ((n / k + (if i < n % k then 1 else 0) : Nat) : Int)
def cnt (n m : Nat) : Nat := (n - 1) / m + 1
def groups (n m : Nat) : List Int := (List.range' 0 (cnt n m)).map (gsz n (cnt n m))
theorem w64n {x : Nat} (h1 : x ≤ 9223372036854775807) : wrap64 (x : Int) = x := by unfold wrap64; omega
theorem wsucc {x : Nat} (h1 : x + 1 ≤ 9223372036854775807) : wrap64 ((x : Int) + 1) = ((x + 1 : Nat) : Int) := w64n h1
theorem wadd {x y : Nat} (h1 : x + y ≤ 9223372036854775807) : wrap64 ((x : Int) + (y : Int)) = ((x + y : Nat) : Int) := w64n h1
theorem wmul {x y : Nat} (h1 : x * y ≤ 9223372036854775807) : wrap64 ((x : Int) * (y : Int)) = ((x * y : Nat) : Int) := by rw [← Int.natCast_mul]; exact w64n h1
theorem wpred {x : Nat} (h0 : 1 ≤ x) (h1 : x ≤ 9223372036854775807) : wrap64 ((x : Int) - 1) = ((x - 1 : Nat) : Int) := by rw [w64 (by omega) (by omega)]; omega
theorem wdiv {x y : Nat} (h1 : x ≤ 9223372036854775807) : wrap64 (Int.tdiv (x : Int) (y : Int)) = ((x / y : Nat) : Int) := w64n (Nat.le_trans (Nat.div_le_self _ _) h1)
theorem cnt_pos (n m : Nat) : 1 ≤ cnt n m := Nat.le_add_left _ _
theorem cnt_le {n m : Nat} (hn : 1 ≤ n) : cnt n m ≤ n := by
  unfold cnt; have := Nat.div_le_self (n - 1) m; omega
theorem groups_length (n m : Nat) : (groups n m).length = cnt n m := by simp [groups]
theorem gsz_last {n k : Nat} (hk : 1 ≤ k) : gsz n k (k - 1) = ((n / k : Nat) : Int) := by
  unfold gsz; have := Nat.mod_lt n hk; rw [if_neg (by omega)]; simp
theorem parts_l0 (n kk : Nat) (hn : n ≤ 2097152) (hk : 1 ≤ kk) (hkn : kk ≤ n) (d : Nat) : ∀ (i : Nat) (acc : List Int) (K : Nat), i + d = kk → acc.length = i → d < K →
    load_Parts.l0 K n kk acc kk i = some (acc ++ (List.range' i d).map (gsz n kk)) := by
  induction d with
  | zero =>
    intro i acc K hi ha hK
    obtain ⟨K, rfl⟩ : ∃ m, K = m + 1 := ⟨K - 1, by omega⟩
    simp only [load_Parts.l0]; rw [if_neg (by omega)]; simp
  | succ d ih =>
    intro i acc K hi ha hK
    obtain ⟨K, rfl⟩ : ∃ m, K = m + 1 := ⟨K - 1, by omega⟩
    have hq : n / kk ≤ n := Nat.div_le_self _ _
    have hr : List.range' i (d + 1) = i :: List.range' (i + 1) d := rfl
    simp only [load_Parts.l0]
    rw [if_pos (by omega), if_neg (by omega), tmod_nat, wdiv (by omega), wsucc (x := i) (by omega)]
    by_cases hc : i < n % kk
    · rw [if_pos (by omega), if_pos (by omega), ih (i + 1) _ K (by omega) (by simp [ha]) (by omega), wsucc (by omega), hr, List.map_cons, List.append_assoc]
      simp [gsz, hc]
    · rw [if_neg (by omega), if_pos (by omega), ih (i + 1) _ K (by omega) (by simp [ha]) (by omega), hr, List.map_cons, List.append_assoc]
      simp [gsz, hc]
theorem cnt_w {n m : Nat} (h0 : 1 ≤ n) (hn : n ≤ 2097152) : wrap64 ((wrap64 (Int.tdiv (wrap64 ((n : Int) - 1)) (m : Int))) + 1) = ((cnt n m : Nat) : Int) := by
  have hq : (n - 1) / m ≤ n - 1 := Nat.div_le_self _ _
  rw [wpred h0 (by omega), wdiv (by omega)]
  exact wsucc (by omega)
theorem parts_f (n m : Nat) (hn1 : 1 ≤ n) (hn : n ≤ 2097152) (hm : 1 ≤ m) (K : Nat) (hK : n + 1 < K) :
    load_Parts.f K n m = some (groups n m) := by
  obtain ⟨K, rfl⟩ : ∃ x, K = x + 1 := ⟨K - 1, by omega⟩
  have hc := cnt_le (m := m) hn1
  have hc1 : 1 ≤ cnt n m := cnt_pos n m
  unfold load_Parts.f
  rw [if_neg (by omega), if_neg (by omega)]
  simp only [load_Parts.j0]
  have hd : decide ((m : Int) < 1) = false := by simp; omega
  rw [hd, if_neg (by simp), if_neg (by omega), cnt_w hn1 hn]
  exact parts_l0 n (cnt n m) hn hc1 hc (cnt n m) 0 [] K (by omega) rfl (by omega)
theorem parts_none (n m : Int) (h : n < 1 ∨ 2097152 < n ∨ m < 1) (K : Nat) (hK : 0 < K) : load_Parts.f K n m = some [] := by
  obtain ⟨K, rfl⟩ : ∃ x, K = x + 1 := ⟨K - 1, by omega⟩
  unfold load_Parts.f
  by_cases h1 : n < 1
  · rw [if_pos h1]; simp [load_Parts.j0]
  · rw [if_neg h1]
    by_cases h2 : n > 2097152
    · rw [if_pos h2]; simp [load_Parts.j0]
    · have hd : decide (m < 1) = true := by simp; omega
      rw [if_neg h2, hd]; simp [load_Parts.j0]
theorem awake (K : Nat) (hK : 40 ≤ K) : boscagelaw20_Awake.f K = some true :=
  at_rounds boscagelaw20_Awake.mono hK (by decide +kernel)
theorem rd_groups {n m i : Nat} (h : i < cnt n m) : rd (groups n m) (i : Int) = gsz n (cnt n m) i := by
  simp [rd, groups, h]
/-- The sum of the first i groups. -/
def pre (n c i : Nat) : Nat := i * (n / c) + min i (n % c)
theorem pre_succ (n c i : Nat) : pre n c (i + 1) = pre n c i + (n / c + (if i < n % c then 1 else 0)) := by
  unfold pre
  rw [Nat.succ_mul]
  by_cases h : i < n % c
  · rw [if_pos h, Nat.min_eq_left (by omega), Nat.min_eq_left (by omega)]; omega
  · rw [if_neg h, Nat.min_eq_right (by omega), Nat.min_eq_right (by omega)]; omega
theorem pre_all {n c : Nat} (hc : 1 ≤ c) : pre n c c = n := by
  unfold pre
  have := Nat.mod_lt n hc
  rw [Nat.min_eq_right (by omega)]; exact Nat.div_add_mod n c
theorem pre_mono {n c : Nat} (hc : 1 ≤ c) (i : Nat) (hi : i ≤ c) : pre n c i ≤ n := by
  have h := pre_all (n := n) hc
  have h1 : i * (n / c) ≤ c * (n / c) := Nat.mul_le_mul_right _ hi
  unfold pre at h ⊢
  have h2 : min i (n % c) ≤ min c (n % c) := by omega
  omega
theorem cnt_room {n m : Nat} (hn : 1 ≤ n) (hm : 1 ≤ m) : n ≤ cnt n m * m ∧ (cnt n m - 1) * m < n := by
  unfold cnt; rw [Nat.add_sub_cancel]
  have h1 := Nat.div_add_mod (n - 1) m; have h2 := Nat.mod_lt (n - 1) hm
  have h3 := Nat.div_mul_le_self (n - 1) m
  rw [Nat.succ_mul, Nat.mul_comm]
  exact ⟨by omega, by rw [Nat.mul_comm]; omega⟩
theorem size_fits {n m i : Nat} (hn : 1 ≤ n) (hm : 1 ≤ m) : n / cnt n m + (if i < n % cnt n m then 1 else 0) ≤ m := by
  obtain ⟨h, _⟩ := cnt_room hn hm
  have hc := cnt_pos n m
  generalize cnt n m = c at *
  have h1 := Nat.div_add_mod n c
  by_cases hi : i < n % c
  · rw [if_pos hi]
    have : n / c < m := Nat.lt_of_mul_lt_mul_left (a := c) (by omega)
    omega
  · rw [if_neg hi]
    exact Nat.div_le_of_le_mul h
theorem even_l0 (n m : Nat) (hn1 : 1 ≤ n) (hn : n ≤ 65535) (hm1 : 1 ≤ m) (hm : m ≤ 65535) (d : Nat) : ∀ (i K : Nat), i + d = cnt n m → d < K →
    boscagelaw20_LoadEven.l0 K n m (groups n m) ((pre n (cnt n m) i : Nat) : Int) (groups n m) ((groups n m).length : Int) i = some true := by
  have hc := cnt_le (m := m) hn1
  have hc1 := cnt_pos n m
  obtain ⟨_, hroom⟩ := cnt_room hn1 hm1
  have hlen := groups_length n m
  induction d with
  | zero =>
    intro i K hi hK
    obtain ⟨K, rfl⟩ : ∃ x, K = x + 1 := ⟨K - 1, by omega⟩
    have hi' : i = cnt n m := by omega
    subst hi'
    simp only [boscagelaw20_LoadEven.l0]
    rw [hlen, if_neg (by omega), pre_all hc1, w64n (x := n) (by omega), if_pos rfl, wpred hc1 (by omega), w64n (x := m) (by omega), wmul (by omega)]
    have : decide (((((cnt n m - 1) * m : Nat) : Int)) < (n : Int)) = true := by rw [decide_eq_true_eq]; omega
    rw [this]
  | succ d ih =>
    intro i K hi hK
    obtain ⟨K, rfl⟩ : ∃ x, K = x + 1 := ⟨K - 1, by omega⟩
    have hq : 1 ≤ n / cnt n m := (Nat.one_le_div_iff hc1).2 hc
    have hfit := size_fits (i := i) hn1 hm1
    have hfit0 := size_fits (i := 0) hn1 hm1
    have hr0 : rd (groups n m) 0 = gsz n (cnt n m) 0 := rd_groups (i := 0) (by omega)
    have hri := rd_groups (n := n) (m := m) (i := i) (by omega)
    have hstep := pre_succ n (cnt n m) i
    have hle := pre_mono (n := n) hc1 (i + 1) (by omega)
    have h3 := ih (i + 1) K (by omega) (by omega)
    have hord : (if i < n % cnt n m then 1 else 0) ≤ 1 ∧ (if 0 < n % cnt n m then 1 else 0) ≤ 1 := by constructor <;> split <;> omega
    have hge : ¬ gsz n (cnt n m) i < ((n / cnt n m + (if 0 < n % cnt n m then 1 else 0) - 1 : Nat) : Int) := by unfold gsz; omega
    have hg1 : ¬ gsz n (cnt n m) i < 1 := by unfold gsz; omega
    have hgm : ¬ gsz n (cnt n m) i > (m : Int) := by unfold gsz; omega
    simp only [boscagelaw20_LoadEven.l0]
    rw [if_pos (by omega), if_pos (by omega), if_pos (by omega), hri, if_neg hg1, w64n (x := m) (by omega), if_neg hgm, hr0, show wrap64 (gsz n (cnt n m) 0 - 1) = ((n / cnt n m + (if 0 < n % cnt n m then 1 else 0) - 1 : Nat) : Int) from wpred (by omega) (by omega), show wrap64 (((pre n (cnt n m) i : Nat) : Int) + gsz n (cnt n m) i) = ((pre n (cnt n m) (i + 1) : Nat) : Int) from by rw [hstep]; exact wadd (by omega), wsucc (by omega)]
    by_cases hi0 : (i : Int) > 0
    · have hprev := rd_groups (n := n) (m := m) (i := i - 1) (by omega)
      have hdown : ¬ gsz n (cnt n m) i > gsz n (cnt n m) (i - 1) := by
        have : (if i < n % cnt n m then 1 else 0) ≤ (if i - 1 < n % cnt n m then 1 else 0) := by
          by_cases h : i < n % cnt n m
          · rw [if_pos h, if_pos (by omega)]; omega
          · rw [if_neg h]; omega
        unfold gsz; omega
      rw [if_pos hi0, wpred (by omega) (by omega), if_pos (by omega), if_pos (by omega), hprev, if_neg hdown, if_pos (by omega), if_neg hge]
      exact h3
    · rw [if_neg hi0, if_pos (by omega), if_neg hge]
      exact h3
theorem LoadEven : boscagelaw20_LoadEven.Pure := by
  intro a0 a1 h0 h1
  have hb0 := bounds_u16 h0
  have hb1 := bounds_u16 h1
  obtain ⟨n, rfl⟩ := Int.eq_ofNat_of_zero_le (a := a0) (by omega)
  obtain ⟨m, rfl⟩ := Int.eq_ofNat_of_zero_le (a := a1) (by omega)
  refine ⟨100000, ?_⟩
  generalize hK : 100000 = K
  unfold boscagelaw20_LoadEven.f
  rw [awake K (by omega), Option.bind_some, if_pos rfl]
  obtain ⟨K, rfl⟩ : ∃ x, K = x + 1 := ⟨K - 1, by omega⟩
  by_cases hn : (n : Int) = 0
  · rw [if_pos hn]; simp [boscagelaw20_LoadEven.j0]
  · rw [if_neg hn]
    simp only [boscagelaw20_LoadEven.j0]
    by_cases hm : m = 0
    · subst hm; simp
    · have hc := cnt_le (m := m) (show 1 ≤ n by omega)
      have hbf : ((m : Int) == 0) = false := by simp; omega
      rw [hbf, if_neg (by simp), w64n (x := n) (by omega), w64n (x := m) (by omega), parts_f n m (by omega) (by omega) (by omega) K (by omega), Option.bind_some]
      have := even_l0 n m (by omega) (by omega) (by omega) (by omega) (cnt n m) 0 K (by omega) (by omega)
      rw [show pre n (cnt n m) 0 = 0 from by unfold pre; omega] at this
      exact this

end Go.Proofs.Ytfhnlgafdgnbgaa.Pure
