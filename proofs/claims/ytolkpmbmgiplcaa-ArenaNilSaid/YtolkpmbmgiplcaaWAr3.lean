/- ArenaNil: the law's walk. No condition but that the numbers are of their kinds, and that what is handed in can be read. -/
import Derived.Test.YtolkpmbmgiplcaaSmOpen
import Derived.Test.YtolkpmbmgiplcaaWAr1
namespace Go.Proofs.Ytolkpmbmgiplcaa
open Go Go.RowKit
set_option linter.unusedVariables false
set_option linter.unusedSimpArgs false
set_option maxHeartbeats 4000000 in
theorem ArenaNil_walk (s : Sm) (va vb : Value) (w : World) (ha : RdV w va s.keys.length 1 (s.keys.map (Value.int .i8))) (hb : RdV w vb s.ways.length 1 (s.ways.map (Value.int .u8)))
    (ra : ∀ x ∈ s.keys, -128 ≤ x ∧ x ≤ 127) (rb : ∀ x ∈ s.ways, 0 ≤ x ∧ x ≤ 255) (r : Int) (hr : -9223372036854775808 ≤ r ∧ r ≤ 9223372036854775807) (j : Int) (hj : -9223372036854775808 ≤ j ∧ j ≤ 9223372036854775807) :
    Calls Try.prog 9 #[.agg #[.bool s.inner, .bool s.tagged, va, vb], .int .i64 r, .int .i64 j] w fun e w' => e = .returned (.bool true) ∧ Below w.heap.size w w' := by
  have h1 := (Heap.start w).alloc 44 #[.bool s.inner, .bool s.tagged, va, vb]
  clear hr hj
  have HA := Lib.hid ha
  have HB := Lib.hid hb
  have RA := Lib.hid ra
  have RB := Lib.hid rb
  have H1 := Lib.hid h1
  obtain ⟨a1, c1, rfl⟩ := ha.len
  obtain ⟨a2, c2, rfl⟩ := hb.len
  generalize hH : w.heap.size = H at *
  have C1 := Lib.hid (Awake_calls _ _ (Fr.refl nob (w.alloc (.cells #[.bool s.inner, .bool s.tagged, .slice a1 s.keys.length c1, .slice a2 s.ways.length c2] 44))))
  clear ha hb h1 ra rb
  go_enter Try.func9, Try.ntmps9
  go_wp2_with fail
  refine C1.out.mono ?_
  rintro e w1 ⟨rfl, F1⟩
  have H2 := H1.out.go F1
  have hbS := H2.blk 0 rfl
  have s0 : w1.cell? ⟨H, 0, none⟩ = some (.bool s.inner) := hbS.cell 0
  have s1 : w1.cell? ⟨H, 1, none⟩ = some (.bool s.tagged) := hbS.cell 1
  have s2 : w1.cell? ⟨H, 2, none⟩ = some (.slice a1 s.keys.length c1) := hbS.cell 2
  have s3 : w1.cell? ⟨H, 3, none⟩ = some (.slice a2 s.ways.length c2) := hbS.cell 3
  have HH := Lib.hid H2
  clear hbS H1 F1 H2
  go_wp2_with fail
  refine (Node_h HH.out s _ _ HA.out HB.out RA.out RB.out).mono ?_
  rintro e w2 ⟨vp, vk, vn, rfl, H3⟩
  have F3 := H3.fr
  clear H3 HH s0 s1 s2 s3
  have FF := Lib.hid F3
  clear F3
  go_wp2_with fail
  refine (Alloc_nil s.nd vp vk vn w2).mono ?_
  rintro e w3 ⟨rfl, F3⟩
  have FG := Lib.hid (FF.out.trans F3 (fun _ _ x => x))
  clear F3 FF
  go_wp2_with fail
  refine (SetMark_nil r _).mono ?_
  rintro e w' ⟨rfl, hw'⟩
  subst hw'
  go_wp2_with fail
  refine (Free_nil r _).mono ?_
  rintro e w' ⟨rfl, hw'⟩
  subst hw'
  go_wp2_with fail
  refine (Look_nil r _).mono ?_
  rintro e w4 ⟨rfl, F4⟩
  go_wp2_with fail
  refine (SameN_calls noNd nilS nilS nilS nilS nilS nilS _ ⟨RdV_nil _ _, RdV_nil _ _, RdV_nil _ _⟩ ⟨RdV_nil _ _, RdV_nil _ _, RdV_nil _ _⟩).mono ?_
  rintro e w5 ⟨rfl, F5⟩
  have FN := Lib.hid ((FG.out.trans F4 (fun _ _ x => x)).trans F5 (fun _ _ x => x))
  clear F4 F5 FG
  go_wp2_with fail
  refine (Way_nil r j _).mono ?_
  rintro e w' ⟨rfl, hw'⟩
  subst hw'
  go_wp2_with fail
  refine (SwapWay_nil r j 0 1 _).mono ?_
  rintro e w' ⟨rfl, hw'⟩
  subst hw'
  go_wp2_with fail
  refine (Info_nil r _).mono ?_
  rintro e w' ⟨rfl, hw'⟩
  subst hw'
  go_wp2_with fail
  refine (SwapInfo_nil r 0 1 _).mono ?_
  rintro e w' ⟨rfl, hw'⟩
  subst hw'
  go_wp2_with fail
  refine (Mark_nil r _).mono ?_
  rintro e w' ⟨rfl, hw'⟩
  subst hw'
  go_wp2_with fail
  refine (Used_nil _).mono ?_
  rintro e w' ⟨rfl, hw'⟩
  subst hw'
  go_wp2_with fail
  refine (Faults_nil _).mono ?_
  rintro e w' ⟨rfl, hw'⟩
  subst hw'
  go_wp2_with fail
  refine (Most_nil _).mono ?_
  rintro e w' ⟨rfl, hw'⟩
  subst hw'
  go_wp2_with fail
  go_ret
  refine ⟨rfl, ?_⟩
  rw [← hH]
  exact FN.out.below (Nat.le_refl _) (fun _ x => x.elim)
end Go.Proofs.Ytolkpmbmgiplcaa
