/- The arena's Info, SwapInfo, Mark, SetMark, Way, SwapWay: each answers as a plain function says. No condition but the arena's bounds. -/
import Derived.Test.YtolkpmbmgiplcaaAreB
import Derived.BigQuiet
import Derived.Deep.QuietTactic
namespace Go.Proofs.Ytolkpmbmgiplcaa
open Go Go.RowKit
set_option linter.unusedVariables false
set_option linter.unusedSimpArgs false
/-- A place in an arena. -/
def Ar.at (ar : Ar) (p : Nat) : Sl := ar.slots.getD p default
def Ar.put (ar : Ar) (p : Nat) (s : Sl) : Ar := { ar with slots := ar.slots.set p s }
def Ar.fault (ar : Ar) : Ar := { ar with faults := ar.faults + 1 }
def infoAr (r : Int) (ar : Ar) : Int × Ar := match arAt ar r with | some p => ((ar.at p).info, ar) | none => (0, ar.fault)
def swapInfoAr (r old now : Int) (ar : Ar) : Bool × Ar := match arAt ar r with | some p => if (ar.at p).info = old then (true, ar.put p { ar.at p with info := now }) else (false, ar) | none => (false, ar.fault)
def markAr (r : Int) (ar : Ar) : Bool × Ar := match arAt ar r with | some p => ((ar.at p).mark, ar) | none => (false, ar.fault)
def setMarkAr (r : Int) (ar : Ar) : Ar := match arAt ar r with | some p => ar.put p { ar.at p with mark := true } | none => ar.fault
def wayAr (r i : Int) (ar : Ar) : Int × Ar := match arAt ar r with | some p => (if 0 ≤ i ∧ i < (ar.at p).ways.length then (ar.at p).ways.getD i.toNat 0 else 0, ar) | none => (0, ar.fault)
def swapWayAr (r i old now : Int) (ar : Ar) : Bool × Ar := match arAt ar r with
  | some p => if 0 ≤ i ∧ i < (ar.at p).ways.length ∧ (ar.at p).ways.getD i.toNat 0 = old then (true, ar.put p { ar.at p with ways := (ar.at p).ways.set i.toNat now }) else (false, ar)
  | none => (false, ar.fault)
theorem at_get {ar : Ar} {r : Int} {p : Nat} (h : arAt ar r = some p) : ar.slots[p]? = some (ar.at p) := by
  obtain ⟨s, hs, _⟩ := arAt_some h
  rw [hs]; simp [Ar.at, List.getD, hs]
section
variable {w0 w : World} {l : List Piece} {a : Nat} {ar : Ar}
theorem areP_set {i : Nat} (hi : l[i]? = some (areP a ar)) : l.set i (areP a ar) = l := set_id l i _ hi
/-- A fault, as the heap has it. -/
theorem fault_h (h : Heap w0 w l) (i : Nat) (hi : l[i]? = some (areP a ar)) : Heap w0 (w.setCell ⟨a, 4, none⟩ (.int .i64 (ar.faults + 1))) (l.set i (areP a ar.fault)) := by
  obtain ⟨S, hS, _, U⟩ := h.take i hi
  obtain ⟨_, _, _, _, hb, hSa, _, h2⟩ := Are.head hS
  exact U (p' := areP a ar.fault) ((Fr.refl S w).setCell (p := ⟨a, 4, none⟩) (.inl hSa) _) (h2 _) (fun _ x => .inl x)
/-- A place, as the heap has it. -/
theorem slot_h (h : Heap w0 w l) (i : Nat) (hi : l[i]? = some (areP a ar)) {p : Nat} {s : Sl} (hp : ar.slots[p]? = some s) :
    ∃ (g off cap cf : Nat) (af : Option Addr) (v : Vs), Blk w a 78 #[.slice (some ⟨g, off, none⟩) ar.slots.length cap, .slice af ar.free.length cf, .int .i64 ar.most, .int .i64 ar.used, .int .i64 ar.faults] ∧ ar.slots.length ≤ cap ∧
      (∀ j u, (slotC s v)[j]? = some u → w.cell? ⟨g, off + p * 10 + j, none⟩ = some u) ∧ (∀ j, w.frozen? ⟨g, j, none⟩ = false) ∧
      (RdV w v.p s.nd.pairs.length 2 (pairC s.nd.pairs) ∧ RdV w v.k s.nd.keys.length 1 (intC s.nd.keys) ∧ RdV w v.n s.nd.ways.length 1 (intC s.nd.ways) ∧ QRow w 27 1 v.w s.ways.length (intC s.ways)) ∧
      (∀ (gw ow cw : Nat), v.w = .slice (some ⟨gw, ow, none⟩) s.ways.length cw → ∀ (j : Nat) (n : Int), j < s.ways.length → Heap w0 (w.setCell ⟨gw, ow + j, none⟩ (.int .i64 n)) (l.set i (areP a (ar.put p { s with ways := s.ways.set j n })))) ∧
      ∀ (j : Nat) (u : Value) (s' : Sl), j < 10 → slotC s' v = (slotC s v).set j u → s'.nd = s.nd → s'.ways = s.ways → Heap w0 (w.setCell ⟨g, off + p * 10 + j, none⟩ u) (l.set i (areP a (ar.put p s'))) := by
  obtain ⟨S, hS, _, U⟩ := h.take i hi
  obtain ⟨g, off, cap, cf, af, v, hb, hSa, hSg, hag, hcap, hc, hz, hr, hw, hu⟩ := Are.slot hS hp
  refine ⟨g, off, cap, cf, af, v, hb, hcap, hc, hz, hr, fun gw ow cw hv j n hj => ?_, fun j u s' hj he hn hw' => ?_⟩
  · obtain ⟨hg, E⟩ := hw gw ow cw hv
    exact U (p' := areP a (ar.put p { s with ways := s.ways.set j n })) ((Fr.refl S w).setCell (p := ⟨gw, ow + j, none⟩) (.inl hg) _) (E j n hj) (fun _ x => .inl x)
  · exact U (p' := areP a (ar.put p s')) ((Fr.refl S w).setCell (p := ⟨g, off + p * 10 + j, none⟩) (.inl hSg) _) (hu j u s' hj he hn hw') (fun _ x => .inl x)
theorem at_none_h (h : Heap w0 w l) (i : Nat) (hi : l[i]? = some (areP a ar)) (ok : OkAr ar) (r : Int) (hr : arAt ar r = none) :
    Calls Try.prog 34 #[.pointer (some ⟨a, 0, none⟩), .int .i64 r] w fun e w' => e = .returned (.pointer none) ∧ Heap w0 w' (l.set i (areP a ar.fault)) := by
  obtain ⟨S, hS, _⟩ := h.get i hi
  refine (at_none hS ok r hr).mono ?_
  rintro e w' ⟨rfl, rfl⟩
  exact ⟨rfl, fault_h h i hi⟩
theorem at_some_h (h : Heap w0 w l) (i : Nat) (hi : l[i]? = some (areP a ar)) (ok : OkAr ar) (r : Int) {p : Nat} (hr : arAt ar r = some p) {g off cap : Nat} {x1 x2 x3 x4 : Value} (hb : Blk w a 78 #[.slice (some ⟨g, off, none⟩) ar.slots.length cap, x1, x2, x3, x4])
    {v : Vs} (hcap : ar.slots.length ≤ cap) (hc : ∀ j u, (slotC (ar.at p) v)[j]? = some u → w.cell? ⟨g, off + p * 10 + j, none⟩ = some u) :
    Calls Try.prog 34 #[.pointer (some ⟨a, 0, none⟩), .int .i64 r] w fun e w' => e = .returned (.pointer (some ⟨g, off + p * 10, none⟩)) ∧ w' = w := by
  obtain ⟨S, hS, _⟩ := h.get i hi
  exact at_some hS ok r hr hb (at_get hr) hcap hc
theorem Info_h (h : Heap w0 w l) (i : Nat) (hi : l[i]? = some (areP a ar)) (ok : OkAr ar) (r : Int) :
    Calls Try.prog 25 #[.pointer (some ⟨a, 0, none⟩), .int .i64 r] w fun e w' => e = .returned (.int .i64 (infoAr r ar).1) ∧ Heap w0 w' (l.set i (areP a (infoAr r ar).2)) := by
  unfold infoAr
  cases hr : arAt ar r with
  | none =>
    have C := Lib.hid (at_none_h h i hi ok r hr)
    clear hr h hi ok
    go_enter Try.func25, Try.ntmps25
    go_wp2_with fail
    refine C.out.mono ?_
    rintro e w' ⟨rfl, H'⟩
    go_wp2_with fail
    go_ret
    exact ⟨rfl, H'⟩
  | some p =>
    obtain ⟨g, off, cap, cf, af, v, hb, hcap, hc, hz, _, _, _⟩ := slot_h h i hi (at_get hr)
    have C := Lib.hid (at_some_h h i hi ok r hr hb hcap hc)
    have c : w.cell? ⟨g, off + p * 10 + 6, none⟩ = some (.int .i64 (ar.at p).info) := hc 6 _ rfl
    have HH := Lib.hid h
    rw [areP_set hi]
    clear hr h hi ok hb hcap hc hz
    go_enter Try.func25, Try.ntmps25
    go_wp2_with fail
    refine C.out.mono ?_
    rintro e w' ⟨rfl, hw⟩
    have hw := hw.symm
    subst hw
    go_wp2_with fail
    go_ret
    exact ⟨rfl, HH.out⟩
theorem Mark_h (h : Heap w0 w l) (i : Nat) (hi : l[i]? = some (areP a ar)) (ok : OkAr ar) (r : Int) :
    Calls Try.prog 26 #[.pointer (some ⟨a, 0, none⟩), .int .i64 r] w fun e w' => e = .returned (.bool (markAr r ar).1) ∧ Heap w0 w' (l.set i (areP a (markAr r ar).2)) := by
  unfold markAr
  cases hr : arAt ar r with
  | none =>
    have C := Lib.hid (at_none_h h i hi ok r hr)
    clear hr h hi ok
    go_enter Try.func26, Try.ntmps26
    go_wp2_with fail
    refine C.out.mono ?_
    rintro e w' ⟨rfl, H'⟩
    go_wp2_with fail
    go_ret
    exact ⟨rfl, H'⟩
  | some p =>
    obtain ⟨g, off, cap, cf, af, v, hb, hcap, hc, hz, _, _, _⟩ := slot_h h i hi (at_get hr)
    have C := Lib.hid (at_some_h h i hi ok r hr hb hcap hc)
    have c : w.cell? ⟨g, off + p * 10 + 7, none⟩ = some (.bool (ar.at p).mark) := hc 7 _ rfl
    have HH := Lib.hid h
    rw [areP_set hi]
    clear hr h hi ok hb hcap hc hz
    go_enter Try.func26, Try.ntmps26
    go_wp2_with fail
    refine C.out.mono ?_
    rintro e w' ⟨rfl, hw⟩
    have hw := hw.symm
    subst hw
    go_wp2_with fail
    go_ret
    exact ⟨rfl, HH.out⟩
theorem SetMark_h (h : Heap w0 w l) (i : Nat) (hi : l[i]? = some (areP a ar)) (ok : OkAr ar) (r : Int) :
    Calls Try.prog 27 #[.pointer (some ⟨a, 0, none⟩), .int .i64 r] w fun e w' => e = .returned (.tuple #[]) ∧ Heap w0 w' (l.set i (areP a (setMarkAr r ar))) := by
  unfold setMarkAr
  cases hr : arAt ar r with
  | none =>
    have C := Lib.hid (at_none_h h i hi ok r hr)
    clear hr h hi ok
    go_enter Try.func27, Try.ntmps27
    go_wp2_with fail
    refine C.out.mono ?_
    rintro e w' ⟨rfl, H'⟩
    go_wp2_with fail
    go_end0
    exact ⟨rfl, H'⟩
  | some p =>
    obtain ⟨g, off, cap, cf, af, v, hb, hcap, hc, hz, _, _, hu⟩ := slot_h h i hi (at_get hr)
    have C := Lib.hid (at_some_h h i hi ok r hr hb hcap hc)
    have c : w.cell? ⟨g, off + p * 10 + 7, none⟩ = some (.bool (ar.at p).mark) := hc 7 _ rfl
    have z := hz (off + p * 10 + 7)
    have E := Lib.hid (hu 7 (.bool true) { ar.at p with mark := true } (by decide) rfl rfl rfl)
    clear hr h hi ok hb hcap hc hz hu
    go_enter Try.func27, Try.ntmps27
    go_wp2_with fail
    refine C.out.mono ?_
    rintro e w' ⟨rfl, hw⟩
    have hw := hw.symm
    subst hw
    go_wp2_with fail
    go_end0
    exact ⟨rfl, E.out⟩
theorem SwapInfo_h (h : Heap w0 w l) (i : Nat) (hi : l[i]? = some (areP a ar)) (ok : OkAr ar) (r old now : Int) :
    Calls Try.prog 24 #[.pointer (some ⟨a, 0, none⟩), .int .i64 r, .int .i64 old, .int .i64 now] w fun e w' => e = .returned (.bool (swapInfoAr r old now ar).1) ∧ Heap w0 w' (l.set i (areP a (swapInfoAr r old now ar).2)) := by
  unfold swapInfoAr
  cases hr : arAt ar r with
  | none =>
    have C := Lib.hid (at_none_h h i hi ok r hr)
    clear hr h hi ok
    go_enter Try.func24, Try.ntmps24
    go_wp2_with fail
    refine C.out.mono ?_
    rintro e w' ⟨rfl, H'⟩
    go_wp2_with fail
    go_ret
    exact ⟨rfl, H'⟩
  | some p =>
    obtain ⟨g, off, cap, cf, af, v, hb, hcap, hc, hz, _, _, hu⟩ := slot_h h i hi (at_get hr)
    have C := Lib.hid (at_some_h h i hi ok r hr hb hcap hc)
    have c : w.cell? ⟨g, off + p * 10 + 6, none⟩ = some (.int .i64 (ar.at p).info) := hc 6 _ rfl
    have z := hz (off + p * 10 + 6)
    have E := Lib.hid (hu 6 (.int .i64 now) { ar.at p with info := now } (by decide) rfl rfl rfl)
    have HH := Lib.hid h
    have hs := areP_set hi
    by_cases hx : (ar.at p).info = old
    · have hd : ((ar.at p).info != old) = false := by simp [hx]
      simp only [hx, if_true]
      clear hr h hi ok hb hcap hc hz hu hs hx
      go_enter Try.func24, Try.ntmps24
      go_wp2_with fail
      refine C.out.mono ?_
      rintro e w' ⟨rfl, hw⟩
      have hw := hw.symm
      subst hw
      go_wp2_with fail
      go_ret
      exact ⟨rfl, E.out⟩
    · have hd : ((ar.at p).info != old) = true := by simp [hx]
      simp only [hx, if_false]
      rw [hs]
      clear hr h hi ok hb hcap hc hz hu hs hx
      go_enter Try.func24, Try.ntmps24
      go_wp2_with fail
      refine C.out.mono ?_
      rintro e w' ⟨rfl, hw⟩
      have hw := hw.symm
      subst hw
      go_wp2_with fail
      go_ret
      exact ⟨rfl, HH.out⟩
theorem Way_h (h : Heap w0 w l) (i : Nat) (hi : l[i]? = some (areP a ar)) (ok : OkAr ar) (r j : Int) :
    Calls Try.prog 20 #[.pointer (some ⟨a, 0, none⟩), .int .i64 r, .int .i64 j] w fun e w' => e = .returned (.int .i64 (wayAr r j ar).1) ∧ Heap w0 w' (l.set i (areP a (wayAr r j ar).2)) := by
  unfold wayAr
  cases hr : arAt ar r with
  | none =>
    have C := Lib.hid (at_none_h h i hi ok r hr)
    clear hr h hi ok
    go_enter Try.func20, Try.ntmps20
    go_wp2_with fail
    refine C.out.mono ?_
    rintro e w' ⟨rfl, H'⟩
    go_wp2_with fail
    go_ret
    exact ⟨rfl, H'⟩
  | some p =>
    dsimp only
    obtain ⟨g, off, cap, cf, af, v, hb, hcap, hc, hz, ⟨_, _, _, hq⟩, _, _⟩ := slot_h h i hi (at_get hr)
    have C := Lib.hid (at_some_h h i hi ok r hr hb hcap hc)
    have c : w.cell? ⟨g, off + p * 10 + 5, none⟩ = some v.w := hc 5 _ rfl
    have HH := Lib.hid h
    rw [areP_set hi]
    obtain ⟨aw, cw, hv, hcw, _⟩ := hq.form
    rw [hv] at c hq
    generalize (ar.at p).ways = ws at *
    clear hr h hi ok hb hcap hc hz
    by_cases h0 : 0 ≤ j
    · by_cases h1 : j < ws.length
      · obtain ⟨gw, ow, cur, rfl, _, _, hat⟩ := hq.at (by omega)
        have c2 : w.cell? ⟨gw, ow + j.toNat, none⟩ = some (.int .i64 (ws.getD j.toNat 0)) := hat _ _ (by simp [intC, List.getD, List.getElem?_eq_getElem (show j.toNat < ws.length by omega)])
        rw [if_pos ⟨h0, h1⟩]
        clear hat hq
        generalize ws.getD j.toNat 0 = x at *
        go_enter Try.func20, Try.ntmps20
        go_wp2_with fail
        refine C.out.mono ?_
        rintro e w' ⟨rfl, hw⟩
        have hw := hw.symm
        subst hw
        go_wp2_with fail
        go_ret
        exact ⟨rfl, HH.out⟩
      · rw [if_neg (fun x => h1 x.2)]
        have h2 : (ws.length : Int) ≤ j := by omega
        clear hq h1
        go_enter Try.func20, Try.ntmps20
        go_wp2_with fail
        refine C.out.mono ?_
        rintro e w' ⟨rfl, hw⟩
        have hw := hw.symm
        subst hw
        go_wp2_with fail
        go_ret
        exact ⟨rfl, HH.out⟩
    · rw [if_neg (fun x => h0 x.1)]
      have h2 : j < 0 := by omega
      clear hq h0
      go_enter Try.func20, Try.ntmps20
      go_wp2_with fail
      refine C.out.mono ?_
      rintro e w' ⟨rfl, hw⟩
      have hw := hw.symm
      subst hw
      go_wp2_with fail
      go_ret
      exact ⟨rfl, HH.out⟩
theorem SwapWay_h (h : Heap w0 w l) (i : Nat) (hi : l[i]? = some (areP a ar)) (ok : OkAr ar) (r j old now : Int) :
    Calls Try.prog 23 #[.pointer (some ⟨a, 0, none⟩), .int .i64 r, .int .i64 j, .int .i64 old, .int .i64 now] w fun e w' => e = .returned (.bool (swapWayAr r j old now ar).1) ∧ Heap w0 w' (l.set i (areP a (swapWayAr r j old now ar).2)) := by
  unfold swapWayAr
  cases hr : arAt ar r with
  | none =>
    have C := Lib.hid (at_none_h h i hi ok r hr)
    clear hr h hi ok
    go_enter Try.func23, Try.ntmps23
    go_wp2_with fail
    refine C.out.mono ?_
    rintro e w' ⟨rfl, H'⟩
    go_wp2_with fail
    go_ret
    exact ⟨rfl, H'⟩
  | some p =>
    dsimp only
    obtain ⟨g, off, cap, cf, af, v, hb, hcap, hc, hz, ⟨_, _, _, hq⟩, hw, _⟩ := slot_h h i hi (at_get hr)
    have C := Lib.hid (at_some_h h i hi ok r hr hb hcap hc)
    have c : w.cell? ⟨g, off + p * 10 + 5, none⟩ = some v.w := hc 5 _ rfl
    have HH := h
    have hs := areP_set hi
    rw [← hs] at HH
    replace HH := Lib.hid HH
    obtain ⟨aw, cw, hv, hcw, _⟩ := hq.form
    rw [hv] at c hq
    generalize hws : (ar.at p).ways = ws at *
    clear hr h hi ok hb hcap hc hz hs
    by_cases h0 : 0 ≤ j
    · by_cases h1 : j < ws.length
      · obtain ⟨gw, ow, cur, rfl, hbw, _, hat⟩ := hq.at (by omega)
        have c2 : w.cell? ⟨gw, ow + j.toNat, none⟩ = some (.int .i64 (ws.getD j.toNat 0)) := hat _ _ (by simp [intC, List.getD, List.getElem?_eq_getElem (show j.toNat < ws.length by omega)])
        have z2 := hbw.froz (ow + j.toNat)
        have E := Lib.hid (hw gw ow cw hv j.toNat now (by omega))
        clear hat hq hw hv hws hbw
        by_cases h2 : ws.getD j.toNat 0 = old
        · rw [if_pos ⟨h0, h1, h2⟩]
          have hd : (ws.getD j.toNat 0 != old) = false := by simp only [bne_eq_false_iff_eq]; exact h2
          clear h2
          generalize ws.getD j.toNat 0 = x at *
          go_enter Try.func23, Try.ntmps23
          go_wp2_with fail
          refine C.out.mono ?_
          rintro e w' ⟨rfl, hw⟩
          have hw := hw.symm
          subst hw
          go_wp2_with fail
          go_ret
          exact ⟨rfl, E.out⟩
        · rw [if_neg (fun x => h2 x.2.2)]
          have hd : (ws.getD j.toNat 0 != old) = true := by simp only [bne_iff_ne]; exact h2
          clear h2
          generalize ws.getD j.toNat 0 = x at *
          go_enter Try.func23, Try.ntmps23
          go_wp2_with fail
          refine C.out.mono ?_
          rintro e w' ⟨rfl, hw⟩
          have hw := hw.symm
          subst hw
          go_wp2_with fail
          go_ret
          exact ⟨rfl, HH.out⟩
      · rw [if_neg (fun x => h1 x.2.1)]
        have h2 : (ws.length : Int) ≤ j := by omega
        clear hq h1 hw hv hws
        go_enter Try.func23, Try.ntmps23
        go_wp2_with fail
        refine C.out.mono ?_
        rintro e w' ⟨rfl, hw⟩
        have hw := hw.symm
        subst hw
        go_wp2_with fail
        go_ret
        exact ⟨rfl, HH.out⟩
    · rw [if_neg (fun x => h0 x.1)]
      have h2 : j < 0 := by omega
      clear hq h0 hw hv hws
      go_enter Try.func23, Try.ntmps23
      go_wp2_with fail
      refine C.out.mono ?_
      rintro e w' ⟨rfl, hw⟩
      have hw := hw.symm
      subst hw
      go_wp2_with fail
      go_ret
      exact ⟨rfl, HH.out⟩
end
end Go.Proofs.Ytolkpmbmgiplcaa
