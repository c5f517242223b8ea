/- WorldNew, bad numbers. No condition. -/
import Derived.Test.YthkohomogknddaaWng
namespace Go.Proofs.Ythkohomogknddaa
open Go Go.RowKit
set_option linter.unusedVariables false
set_option linter.unusedSimpArgs false
set_option maxRecDepth 100000
set_option maxHeartbeats 8000000 in
theorem New_bad {a b t n r : Int} (h : ¬ GoodNew a b t n r) (w : World) :
    Calls Try.prog 45 #[.int .i64 a, .int .i64 b, .int .i64 t, .int .i64 n, .int .i64 r] w fun e w' => e = .returned (.tuple #[.pointer none, .int .i64 2]) ∧ w' = w := by
  rcases bad_new h with h | ⟨h1, h⟩ | ⟨⟨h1, h2⟩, h⟩ | ⟨⟨h1, h2⟩, h3, h⟩ | ⟨⟨h1, h2⟩, ⟨h3, h4⟩, h⟩ | ⟨⟨h1, h2⟩, ⟨h3, h4⟩, h5, h⟩ | ⟨⟨h1, h2⟩, ⟨h3, h4⟩, ⟨h5, h6⟩, h⟩ | ⟨⟨h1, h2⟩, ⟨h3, h4⟩, ⟨h5, h6⟩, h7, h⟩ | ⟨⟨h1, h2⟩, ⟨h3, h4⟩, ⟨h5, h6⟩, ⟨h7, h8⟩, h⟩ | ⟨⟨h1, h2⟩, ⟨h3, h4⟩, ⟨h5, h6⟩, ⟨h7, h8⟩, h9, h⟩
  all_goals
    go_enter Try.func45, Try.ntmps45
    go_wp2_with fail
    refine bodyPost_ret (v := .tuple #[.pointer none, .int .i64 2]) (by simp [results, Try.results45, go_sem]) rfl ?_
    exact ⟨rfl, rfl⟩
set_option maxHeartbeats 16000000 in
theorem WorldNew_bad {a b t n r : Int} (hg : ¬ GoodNew a b t n r) (w : World) :
    Calls Try.prog 9 #[.int .i64 a, .int .i64 b, .int .i64 t, .int .i64 n, .int .i64 r] w fun e w' => e = .returned (.bool true) ∧ Below w.heap.size w w' := by
  have hbad := Lib.hid hg
  rcases bad_new hg with h | ⟨h1, h⟩ | ⟨⟨h1, h2⟩, h⟩ | ⟨⟨h1, h2⟩, h3, h⟩ | ⟨⟨h1, h2⟩, ⟨h3, h4⟩, h⟩ | ⟨⟨h1, h2⟩, ⟨h3, h4⟩, h5, h⟩ | ⟨⟨h1, h2⟩, ⟨h3, h4⟩, ⟨h5, h6⟩, h⟩ | ⟨⟨h1, h2⟩, ⟨h3, h4⟩, ⟨h5, h6⟩, h7, h⟩ | ⟨⟨h1, h2⟩, ⟨h3, h4⟩, ⟨h5, h6⟩, ⟨h7, h8⟩, h⟩ | ⟨⟨h1, h2⟩, ⟨h3, h4⟩, ⟨h5, h6⟩, ⟨h7, h8⟩, h9, h⟩
  all_goals
    clear hg
    go_enter Try.func9, Try.ntmps9
    go_wp2_with fail
    refine (Awake_calls w).mono ?_
    rintro e w1 ⟨rfl, F1⟩
    have CS := Lib.hid (New_bad (a := a) (b := b) (t := t) (n := n) (r := r) hbad.out w1)
    have B1 := ((Heap.start w).go F1).below
    clear F1
    go_wp2_with fail
    refine CS.out.mono ?_
    rintro e w2 ⟨rfl, rfl⟩
    clear CS
    go_wp2_with fail
    go_ret
    exact ⟨rfl, B1⟩
end Go.Proofs.Ythkohomogknddaa
