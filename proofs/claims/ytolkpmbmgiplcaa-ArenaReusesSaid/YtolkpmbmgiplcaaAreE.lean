/- The arena's Free; what none at all does. No condition but the arena's bounds. -/
import Derived.Test.YtolkpmbmgiplcaaAreD
import Derived.Deep.RegionWith
import Derived.Deep.DeepCutAuto
namespace Go.Proofs.Ytolkpmbmgiplcaa
open Go Go.RowKit
set_option linter.unusedVariables false
set_option linter.unusedSimpArgs false
def freeAr (r : Int) (ar : Ar) : Bool × Ar := match arAt ar r with
  | some p => (true, { (ar.put p { ar.at p with used := false }) with free := ar.free ++ [p], used := ar.used - 1 })
  | none => (false, ar.fault)
theorem info_int : (Try.prog.info? 3).map (fun i => (i.zero, i.size, i.bytes)) = some (some (.int .i64 0), 1, 8) := by kernel_rfl
section
variable {w0 w : World} {l : List Piece} {a : Nat} {ar : Ar}
theorem used_h (h : Heap w0 w l) (i : Nat) (hi : l[i]? = some (areP a ar)) (n : Int) : w.cell? ⟨a, 3, none⟩ = some (.int .i64 ar.used) ∧ w.frozen? ⟨a, 3, none⟩ = false ∧ Heap w0 (w.setCell ⟨a, 3, none⟩ (.int .i64 n)) (l.set i (areP a { ar with used := n })) := by
  obtain ⟨S, hS, _, U⟩ := h.take i hi
  obtain ⟨_, _, _, _, hb, hSa, h1, _⟩ := Are.head hS
  exact ⟨hb.cell 3, hb.froz 3, U (p' := areP a { ar with used := n }) ((Fr.refl S w).setCell (p := ⟨a, 3, none⟩) (.inl hSa) _) (h1 _) (fun _ x => .inl x)⟩
set_option maxHeartbeats 1000000 in
theorem Free_h (h : Heap w0 w l) (i : Nat) (hi : l[i]? = some (areP a ar)) (ok : OkAr ar) (hfr : ar.free.length ≤ 100000) (r : Int) :
    Calls Try.prog 13 #[.pointer (some ⟨a, 0, none⟩), .int .i64 r] w fun e w' => e = .returned (.bool (freeAr r ar).1) ∧ Heap w0 w' (l.set i (areP a (freeAr r ar).2)) := by
  unfold freeAr
  cases hr : arAt ar r with
  | none =>
    have C := Lib.hid (at_none_h h i hi ok r hr)
    clear hr h hi ok hfr
    go_enter Try.func13, Try.ntmps13
    go_wp2_with fail
    refine C.out.mono ?_
    rintro e w' ⟨rfl, H'⟩
    go_wp2_with fail
    go_ret
    exact ⟨rfl, H'⟩
  | some p =>
    dsimp only
    obtain ⟨s', hs', _, _, hp⟩ := arAt_some hr
    have hpl : p < ar.slots.length := (List.getElem?_eq_some_iff.1 hs').1
    have hil : i < l.length := (List.getElem?_eq_some_iff.1 hi).1
    obtain ⟨u0, u1⟩ := ok.used
    obtain ⟨g, off, cap, cf, af, v, hb, hcap, hc, hz, _, _, hu⟩ := slot_h h i hi (at_get hr)
    have C := Lib.hid (at_some_h h i hi ok r hr hb hcap hc)
    have c : w.cell? ⟨g, off + p * 10 + 9, none⟩ = some (.bool (ar.at p).used) := hc 9 _ rfl
    have z := hz (off + p * 10 + 9)
    have E := hu 9 (.bool false) { ar.at p with used := false } (by decide) rfl rfl rfl
    have HP := Lib.hid (fun w => Place_is r p w hp)
    have hp1 : p ≤ 65536 := by have := ok.few; omega
    obtain ⟨i0, hi0, hz0, hz1, hz2⟩ := info_parts info_int
    generalize hw1 : w.setCell ⟨g, off + p * 10 + 9, none⟩ (.bool false) = w1 at E
    have hi1 : (l.set i (areP a (ar.put p { ar.at p with used := false })))[i]? = some (areP a (ar.put p { ar.at p with used := false })) := List.getElem?_set_self hil
    obtain ⟨aS1, af1, cs1, cf1, hb1, hq1, hty, U1⟩ := free_h E i hi1
    have k1 : w1.cell? ⟨a, 1, none⟩ = some (.slice af1 (ar.put p { ar.at p with used := false }).free.length cf1) := hb1.cell 1
    have k3 : w1.cell? ⟨a, 3, none⟩ = some (.int .i64 ar.used) := hb1.cell 3
    have z1 := hb1.froz 1
    have z3 := hb1.froz 3
    have la : a < w1.heap.size := hb1.lt
    have ef : (ar.put p { ar.at p with used := false }).free = ar.free := rfl
    rw [ef] at k1 hq1 hty U1
    have hlm : ar.free.length + 1 ≤ maxLen := by unfold maxLen; omega
    have hlb : (ar.free.length + 1) * 8 ≤ 140737488355328 := by omega
    have HW1 := Lib.hid hw1
    have QQ := Lib.hid hq1
    have TY := Lib.hid hty
    have UU := Lib.hid U1
    clear hr h hi ok hb hcap hc hz hu hp hs' hw1 hb1 hq1 hty U1 ef hi1 hpl
    go_enter Try.func13, Try.ntmps13
    go_wp2_with fail
    refine C.out.mono ?_
    rintro e w' ⟨rfl, hw⟩
    have hw := hw.symm
    subst hw
    go_upto_region 5 with fail
    rw [HW1.out]
    go_cut [] (fun wx => Heap w0 wx (l.set i (areP a { (ar.put p { ar.at p with used := false }) with free := ar.free ++ [p] })))
    case first =>
      go_region_law (first
        | (refine step_append_typed _ (by rfl) _ _ _ (by rfl) 3 i0 (.int .i64 0) 1 8 Try.underlying71 hi0 hz0 hz1 hz2 rfl (by decide) (.slice af1 ar.free.length cf1) ar.free.length (intsC ar.free) (by rfl) (QQ.out.fr (F := nob) (by repeat (first | exact Fr.refl _ _ | apply Fr.drew | apply Fr.alloc)) (fun _ _ _ x => x)) _ 1 [.int .i64 (p : Nat)] (by rfl) (RdV.block (cs := #[.int .i64 (p : Nat)]) (t := 3) (by repeat (first | exact Blk.new' rfl _ _ | apply Blk.drew | apply Blk.alloc)) rfl (by decide)) (by simp [Value.oneCell']) hlm hlb ?_; intro a2 c2 w7 q7 grow7 hat7; have f7 : Fr (fun j => (Value.slice af1 ar.free.length cf1).ownBlock = some j) w1 w7 := Fr.grown (by repeat (first | exact Fr.refl _ _ | apply Fr.drew | apply Fr.alloc)) grow7 (fun k hk => .inl hk); have y1 := f7.cell' k1 (fun x => (TY.out a x).1 rfl); have y2 := f7.froz' k1 z1 (fun x => (TY.out a x).1 rfl))
        | (go_simp; go_at_call 15; refine (HP.out _).mono ?_; rintro e w' ⟨rfl, hw⟩; have hw := hw.symm; subst hw))
      all_goals
        have P := UU.out w7 (.slice a2 (ar.free.length + 1) c2) (ar.free ++ [p]) f7 (by rw [List.length_append]; simpa [intsC] using q7) (fun k hk => by
          rcases hat7 k hk with ⟨h, _, _⟩ | ⟨h, c⟩
          · exact absurd h (by decide)
          · refine ⟨h.imp_right (fun h => ?_), c⟩
            simp at h; omega)
        have PP := Lib.hid P
        clear P q7 grow7 hat7 f7
        go_wp2_with fail
        go_meet
        have h := PP.out
        rw [List.set_set] at h
        exact h
    case rest =>
      have hi2 : (l.set i (areP a { (ar.put p { ar.at p with used := false }) with free := ar.free ++ [p] }))[i]? = some (areP a { (ar.put p { ar.at p with used := false }) with free := ar.free ++ [p] }) := List.getElem?_set_self hil
      obtain ⟨k5, z4, U⟩ := used_h hcut i hi2 (ar.used - 1)
      have k4 : wc.cell? ⟨a, 3, none⟩ = some (.int .i64 ar.used) := k5
      clear k5
      rw [List.set_set] at U
      have FIN := Lib.hid U
      clear U hcut hi2 k1 k3 z1 z3 c z
      go_wp2_with fail
      go_ret
      exact ⟨rfl, FIN.out⟩
end
theorem Free_nil (r : Int) (w : World) : Calls Try.prog 13 #[.pointer none, .int .i64 r] w fun e w' => e = .returned (.bool false) ∧ w' = w := by
  have C := Lib.hid (at_nil r w)
  go_enter Try.func13, Try.ntmps13
  go_wp2_with (go_at_call 34; refine C.out.mono ?_; rintro e w' ⟨rfl, rfl⟩)
  go_ret
  exact ⟨rfl, rfl⟩
theorem Info_nil (r : Int) (w : World) : Calls Try.prog 25 #[.pointer none, .int .i64 r] w fun e w' => e = .returned (.int .i64 0) ∧ w' = w := by
  have C := Lib.hid (at_nil r w)
  go_enter Try.func25, Try.ntmps25
  go_wp2_with (go_at_call 34; refine C.out.mono ?_; rintro e w' ⟨rfl, rfl⟩)
  go_ret
  exact ⟨rfl, rfl⟩
theorem SwapInfo_nil (r x y : Int) (w : World) : Calls Try.prog 24 #[.pointer none, .int .i64 r, .int .i64 x, .int .i64 y] w fun e w' => e = .returned (.bool false) ∧ w' = w := by
  have C := Lib.hid (at_nil r w)
  go_enter Try.func24, Try.ntmps24
  go_wp2_with (go_at_call 34; refine C.out.mono ?_; rintro e w' ⟨rfl, rfl⟩)
  go_ret
  exact ⟨rfl, rfl⟩
theorem Mark_nil (r : Int) (w : World) : Calls Try.prog 26 #[.pointer none, .int .i64 r] w fun e w' => e = .returned (.bool false) ∧ w' = w := by
  have C := Lib.hid (at_nil r w)
  go_enter Try.func26, Try.ntmps26
  go_wp2_with (go_at_call 34; refine C.out.mono ?_; rintro e w' ⟨rfl, rfl⟩)
  go_ret
  exact ⟨rfl, rfl⟩
theorem SetMark_nil (r : Int) (w : World) : Calls Try.prog 27 #[.pointer none, .int .i64 r] w fun e w' => e = .returned (.tuple #[]) ∧ w' = w := by
  have C := Lib.hid (at_nil r w)
  go_enter Try.func27, Try.ntmps27
  go_wp2_with (go_at_call 34; refine C.out.mono ?_; rintro e w' ⟨rfl, rfl⟩)
  go_end0
  exact ⟨rfl, rfl⟩
theorem Way_nil (r j : Int) (w : World) : Calls Try.prog 20 #[.pointer none, .int .i64 r, .int .i64 j] w fun e w' => e = .returned (.int .i64 0) ∧ w' = w := by
  have C := Lib.hid (at_nil r w)
  go_enter Try.func20, Try.ntmps20
  go_wp2_with (go_at_call 34; refine C.out.mono ?_; rintro e w' ⟨rfl, rfl⟩)
  go_ret
  exact ⟨rfl, rfl⟩
theorem SwapWay_nil (r j x y : Int) (w : World) : Calls Try.prog 23 #[.pointer none, .int .i64 r, .int .i64 j, .int .i64 x, .int .i64 y] w fun e w' => e = .returned (.bool false) ∧ w' = w := by
  have C := Lib.hid (at_nil r w)
  go_enter Try.func23, Try.ntmps23
  go_wp2_with (go_at_call 34; refine C.out.mono ?_; rintro e w' ⟨rfl, rfl⟩)
  go_ret
  exact ⟨rfl, rfl⟩
end Go.Proofs.Ytolkpmbmgiplcaa
