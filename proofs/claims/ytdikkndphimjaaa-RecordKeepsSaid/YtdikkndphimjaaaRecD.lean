/- The record table's State, Set, All, SetAll, Look. No condition but that there is such a table. -/
import Derived.Test.YtdikkndphimjaaaRecC
namespace Go.Proofs.Ytdikkndphimjaaa
open Go Go.RowKit
set_option linter.unusedVariables false
set_option linter.unusedSimpArgs false
theorem ent_st (vn vi : Value) (e : Ent) (s : Int) : (entC vn vi e).setIfInBounds 6 (.int .u8 s) = entC vn vi { e with st := s } := rfl
theorem ent_all (vn vi : Value) (e : Ent) (s : Bool) : (entC vn vi e).setIfInBounds 7 (.bool s) = entC vn vi { e with all := s } := rfl
/-- The entry of number n. -/
def entOf (es : List Ent) (n : Int) : Option Ent := if 1 ≤ n then es[n.toNat - 1]? else none
theorem entOf_none {es : List Ent} {n : Int} (h : entOf es n = none) : n < 1 ∨ (es.length : Int) < n := by
  unfold entOf at h
  split at h
  · have := List.getElem?_eq_none_iff.1 h; omega
  · omega
theorem entOf_some {es : List Ent} {n : Int} {e : Ent} (h : entOf es n = some e) : ∃ i : Nat, n = (i : Int) + 1 ∧ es[i]? = some e := by
  unfold entOf at h
  split at h
  · exact ⟨n.toNat - 1, by omega, h⟩
  · cases h
theorem State_calls {t : Nat} {S : Nat → Prop} {es : List Ent} {most : Int} {w : World} (h : Tab w t S es most) (n : Int) :
    Calls Try.prog 18 #[ptr t, .int .i64 n] w fun e w' => e = .returned (.int .u8 (((entOf es n).map Ent.st).getD 0)) ∧ w' = w := by
  cases he : entOf es n with
  | none =>
    have ha := Lib.hid (at_none h n (entOf_none he))
    clear he h
    unfold ptr at *
    go_enter Try.func18, Try.ntmps18
    go_wp2_with (go_at_call 24; refine ha.out.mono ?_; rintro e w' ⟨rfl, rfl⟩)
    go_ret
    exact ⟨rfl, rfl⟩
  | some e0 =>
    obtain ⟨i, rfl, hi⟩ := entOf_some he
    obtain ⟨b, ha, _, ⟨vn, vi, hB, _⟩, _⟩ := at_some h i e0 hi
    replace ha := ha w (Fr.refl _ _)
    have c0 : w.cell? ⟨b, 6, none⟩ = some (.int .u8 e0.st) := hB.cell 6
    have ha := Lib.hid ha
    clear he h hi hB
    unfold ptr at *
    go_enter Try.func18, Try.ntmps18
    go_wp2_with (go_at_call 24; refine ha.out.mono ?_; rintro e w' ⟨rfl, rfl⟩)
    go_ret
    exact ⟨rfl, rfl⟩
theorem All_calls {t : Nat} {S : Nat → Prop} {es : List Ent} {most : Int} {w : World} (h : Tab w t S es most) (n : Int) :
    Calls Try.prog 19 #[ptr t, .int .i64 n] w fun e w' => e = .returned (.bool (((entOf es n).map Ent.all).getD false)) ∧ w' = w := by
  cases he : entOf es n with
  | none =>
    have ha := Lib.hid (at_none h n (entOf_none he))
    clear he h
    unfold ptr at *
    go_enter Try.func19, Try.ntmps19
    go_wp2_with (go_at_call 24; refine ha.out.mono ?_; rintro e w' ⟨rfl, rfl⟩)
    go_ret
    exact ⟨rfl, rfl⟩
  | some e0 =>
    obtain ⟨i, rfl, hi⟩ := entOf_some he
    obtain ⟨b, ha, _, ⟨vn, vi, hB, _⟩, _⟩ := at_some h i e0 hi
    replace ha := ha w (Fr.refl _ _)
    have c0 : w.cell? ⟨b, 7, none⟩ = some (.bool e0.all) := hB.cell 7
    have ha := Lib.hid ha
    clear he h hi hB
    unfold ptr at *
    go_enter Try.func19, Try.ntmps19
    go_wp2_with (go_at_call 24; refine ha.out.mono ?_; rintro e w' ⟨rfl, rfl⟩)
    go_ret
    exact ⟨rfl, rfl⟩
/-- The entries when number n's entry is another one. -/
def putOf (es : List Ent) (n : Int) (f : Ent → Ent) : List Ent := match entOf es n with
  | none => es
  | some e => es.set (n.toNat - 1) (f e)
theorem Set_calls {t : Nat} {S : Nat → Prop} {es : List Ent} {most : Int} {w : World} (h : Tab w t S es most) (n s : Int) :
    Calls Try.prog 20 #[ptr t, .int .i64 n, .int .u8 s] w fun e w' => e = .returned (.tuple #[]) ∧ Fr S w w' ∧ Tab w' t S (putOf es n fun e => { e with st := s }) most := by
  unfold putOf
  cases he : entOf es n with
  | none =>
    have ha := Lib.hid (at_none h n (entOf_none he))
    have H := Lib.hid h
    clear he h
    unfold ptr at *
    go_enter Try.func20, Try.ntmps20
    go_wp2_with (go_at_call 24; refine ha.out.mono ?_; rintro e w' ⟨rfl, rfl⟩)
    go_end0
    exact ⟨rfl, Fr.refl _ _, H.out⟩
  | some e0 =>
    obtain ⟨i, rfl, hi⟩ := entOf_some he
    obtain ⟨b, ha, hS, ⟨vn, vi, hB, _⟩, hput⟩ := at_some h i e0 hi
    replace ha := ha w (Fr.refl _ _)
    have c0 : w.cell? ⟨b, 6, none⟩ = some (.int .u8 e0.st) := hB.cell 6
    have f0 : w.frozen? ⟨b, 6, none⟩ = false := hB.froz 6
    have ha := Lib.hid ha
    have H := Lib.hid (hput 6 (.int .u8 s) { e0 with st := s } (fun vn vi => ent_st vn vi e0 s) rfl rfl)
    clear he h hi hB hput
    unfold ptr at *
    go_enter Try.func20, Try.ntmps20
    go_wp2_with (go_at_call 24; refine ha.out.mono ?_; rintro e w' ⟨rfl, rfl⟩)
    go_end0
    refine ⟨rfl, (Fr.refl _ _).setCell (.inl hS) _, ?_⟩
    have e1 : ((i : Int) + 1).toNat - 1 = i := by omega
    rw [e1]
    exact H.out
theorem SetAll_calls {t : Nat} {S : Nat → Prop} {es : List Ent} {most : Int} {w : World} (h : Tab w t S es most) (n : Int) :
    Calls Try.prog 21 #[ptr t, .int .i64 n] w fun e w' => e = .returned (.tuple #[]) ∧ Fr S w w' ∧ Tab w' t S (putOf es n fun e => { e with all := true }) most := by
  unfold putOf
  cases he : entOf es n with
  | none =>
    have ha := Lib.hid (at_none h n (entOf_none he))
    have H := Lib.hid h
    clear he h
    unfold ptr at *
    go_enter Try.func21, Try.ntmps21
    go_wp2_with (go_at_call 24; refine ha.out.mono ?_; rintro e w' ⟨rfl, rfl⟩)
    go_end0
    exact ⟨rfl, Fr.refl _ _, H.out⟩
  | some e0 =>
    obtain ⟨i, rfl, hi⟩ := entOf_some he
    obtain ⟨b, ha, hS, ⟨vn, vi, hB, _⟩, hput⟩ := at_some h i e0 hi
    replace ha := ha w (Fr.refl _ _)
    have c0 : w.cell? ⟨b, 7, none⟩ = some (.bool e0.all) := hB.cell 7
    have f0 : w.frozen? ⟨b, 7, none⟩ = false := hB.froz 7
    have ha := Lib.hid ha
    have H := Lib.hid (hput 7 (.bool true) { e0 with all := true } (fun vn vi => ent_all vn vi e0 true) rfl rfl)
    clear he h hi hB hput
    unfold ptr at *
    go_enter Try.func21, Try.ntmps21
    go_wp2_with (go_at_call 24; refine ha.out.mono ?_; rintro e w' ⟨rfl, rfl⟩)
    go_end0
    refine ⟨rfl, (Fr.refl _ _).setCell (.inl hS) _, ?_⟩
    have e1 : ((i : Int) + 1).toNat - 1 = i := by omega
    rw [e1]
    exact H.out
theorem State_nil (n : Int) (w : World) : Calls Try.prog 18 #[.pointer none, .int .i64 n] w fun e w' => e = .returned (.int .u8 0) ∧ w' = w := by
  have ha := Lib.hid (at_nil n w)
  go_enter Try.func18, Try.ntmps18
  go_wp2_with (go_at_call 24; refine ha.out.mono ?_; rintro e w' ⟨rfl, rfl⟩)
  go_ret
  exact ⟨rfl, rfl⟩
theorem All_nil (n : Int) (w : World) : Calls Try.prog 19 #[.pointer none, .int .i64 n] w fun e w' => e = .returned (.bool false) ∧ w' = w := by
  have ha := Lib.hid (at_nil n w)
  go_enter Try.func19, Try.ntmps19
  go_wp2_with (go_at_call 24; refine ha.out.mono ?_; rintro e w' ⟨rfl, rfl⟩)
  go_ret
  exact ⟨rfl, rfl⟩
theorem Set_nil (n s : Int) (w : World) : Calls Try.prog 20 #[.pointer none, .int .i64 n, .int .u8 s] w fun e w' => e = .returned (.tuple #[]) ∧ w' = w := by
  have ha := Lib.hid (at_nil n w)
  go_enter Try.func20, Try.ntmps20
  go_wp2_with (go_at_call 24; refine ha.out.mono ?_; rintro e w' ⟨rfl, rfl⟩)
  go_end0
  exact ⟨rfl, rfl⟩
theorem SetAll_nil (n : Int) (w : World) : Calls Try.prog 21 #[.pointer none, .int .i64 n] w fun e w' => e = .returned (.tuple #[]) ∧ w' = w := by
  have ha := Lib.hid (at_nil n w)
  go_enter Try.func21, Try.ntmps21
  go_wp2_with (go_at_call 24; refine ha.out.mono ?_; rintro e w' ⟨rfl, rfl⟩)
  go_end0
  exact ⟨rfl, rfl⟩
end Go.Proofs.Ytdikkndphimjaaa
