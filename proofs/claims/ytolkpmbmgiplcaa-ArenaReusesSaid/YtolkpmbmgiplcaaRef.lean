/- References: what Of and Place come to. Of: a place below 65536 and a count of at most eight millions. -/
import Derived.Test.YtolkpmbmgiplcaaRows
import Derived.Test.YtolkpmbmgiplcaaMany
import Derived.Laws.BitsLemmas
import Derived.IntWalk
namespace Go.Proofs.Ytolkpmbmgiplcaa
open Go Go.RowKit
set_option linter.unusedVariables false
set_option linter.unusedSimpArgs false
/-- A reference: of a place, and a count. -/
def refOf (p c : Int) : Int := c * 1099511627776 + (p + 1)
theorem wraps_u32' (n : Int) (h₀ : 0 ≤ n) (h₁ : n < 2 ^ 32) : IntKind.u32.wrap n = n := by rw [IntKind.wrap_u32]; omega
theorem wraps_i64' (n : Int) (h₀ : 0 ≤ n) (h₁ : n < 2 ^ 63) : IntKind.i64.wrap n = n := by rw [IntKind.wrap_i64]; omega
theorem w64_in {n : Int} (h₀ : -9223372036854775808 ≤ n) (h₁ : n ≤ 9223372036854775807) : wrap64 n = n := by unfold wrap64; omega
theorem and23 (c : Int) (h0 : 0 ≤ c) (h1 : c ≤ 8000000) : bits .and .u32 c 8388607 = c := by
  have h := bits_mask .u32 32 (by decide) wraps_u32' 23 (by decide) c h0 (by omega)
  have e : ((2 : Int) ^ 23 - 1) = 8388607 := by decide
  have e2 : ((2 : Int) ^ 23) = 8388608 := by decide
  rw [e, e2] at h
  rw [h]
  omega
theorem and40 (n : Int) : bits .and .i64 n 1099511627775 = n % 1099511627776 := by
  have hm : (BitVec.ofInt 64 1099511627775).toNat = 2 ^ 40 - 1 := by decide
  have key : (BitVec.ofInt 64 n &&& BitVec.ofInt 64 1099511627775).toNat = (n % ((2 ^ 64 : Nat) : Int)).toNat % 2 ^ 40 := by
    rw [BitVec.toNat_and, BitVec.toNat_ofInt, hm, Nat.and_two_pow_sub_one_eq_mod]
  show IntKind.i64.wrap ((BitVec.ofInt 64 n &&& BitVec.ofInt 64 1099511627775).toNat : Nat) = _
  rw [key, IntKind.wrap_i64]
  omega
theorem or40 (x y : Int) (hx : 0 ≤ x) (hx0 : x % 1099511627776 = 0) (hx1 : x < 9223372036854775808) (h0 : 0 ≤ y) (h1 : y < 1099511627776) : bits .or .i64 x y = x + y :=
  bits_join .i64 63 (by decide) wraps_i64' 40 x y hx (by simpa using hx0) (by simpa using hx1) h0 (by simpa using h1) (by omega)
theorem Of_calls (p c : Int) (w : World) (hp : 0 ≤ p ∧ p ≤ 65535) (hc : 0 ≤ c ∧ c ≤ 8000000) : Calls Try.prog 14 #[.int .i64 p, .int .u32 c] w fun e w' => e = .returned (.int .i64 (refOf p c)) ∧ w' = w := by
  obtain ⟨p0, p1⟩ := hp
  obtain ⟨c0, c1⟩ := hc
  go_enter Try.func14, Try.ntmps14
  go_wp2
  go_ret
  refine ⟨ret_int ?_, rfl⟩
  unfold refOf
  rw [and23 c c0 c1, and40, w64_in (n := c) (by omega) (by omega), w64_in (by omega) (by omega), or40 _ _ (by omega) (by omega) (by omega) (by omega) (by omega)]
  omega
theorem Place_calls (r : Int) (w : World) : Calls Try.prog 15 #[.int .i64 r] w fun e w' => e = .returned (.int .i64 (r % 1099511627776 - 1)) ∧ w' = w := by
  go_enter Try.func15, Try.ntmps15
  go_wp2
  go_ret
  refine ⟨ret_int ?_, rfl⟩
  rw [and40, w64_in (by omega) (by omega)]
end Go.Proofs.Ytolkpmbmgiplcaa
