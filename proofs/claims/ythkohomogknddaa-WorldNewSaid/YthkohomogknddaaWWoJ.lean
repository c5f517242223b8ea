/- WorldNew: numbers that may be, and others. No condition. -/
import Derived.Test.YthkohomogknddaaWWo5
import Derived.Test.YthkohomogknddaaWnb
namespace Go.Proofs.Ythkohomogknddaa
open Go Go.RowKit
theorem WorldNew_walk (a : Int) (_ : -9223372036854775808 ≤ a ∧ a ≤ 9223372036854775807) (b : Int) (_ : -9223372036854775808 ≤ b ∧ b ≤ 9223372036854775807) (t : Int) (_ : -9223372036854775808 ≤ t ∧ t ≤ 9223372036854775807) (n : Int) (_ : -9223372036854775808 ≤ n ∧ n ≤ 9223372036854775807) (r : Int) (_ : -9223372036854775808 ≤ r ∧ r ≤ 9223372036854775807) (w : World) :
    Calls Try.prog 9 #[.int .i64 a, .int .i64 b, .int .i64 t, .int .i64 n, .int .i64 r] w fun e w' => e = .returned (.bool true) ∧ Below w.heap.size w w' := by
  by_cases h : GoodNew a b t n r
  · exact WorldNew_good h w
  · exact WorldNew_bad h w
end Go.Proofs.Ythkohomogknddaa
