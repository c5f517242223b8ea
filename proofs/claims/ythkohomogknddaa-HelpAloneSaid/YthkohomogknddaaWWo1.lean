/- The world's fixed fact; WorldEnds. No condition. -/
import Derived.Test.YthkohomogknddaaBgd
import Derived.Test.YthkohomogknddaaQui
namespace Go.Proofs.Ythkohomogknddaa
open Go Go.RowKit
set_option linter.unusedVariables false
set_option linter.unusedSimpArgs false
set_option maxRecDepth 100000
theorem runs_begs {me n : Nat} {now : Int} {s : Wd} (hs : s.ep = quiet now n) (hme : me < n) (hr : -1000 ≤ now ∧ now ≤ 1000000) : ∃ l, Runs ev0 (begsP me n) s l [] ev0 { s with ep := ⟨now + 1, (List.replicate n (-1)).set me now, List.replicate n []⟩ } ∧ l.length = n + 5 ∧ ∀ a ∈ l, inR a := by
  obtain ⟨l, h1, h2, h3⟩ := begin_quiet hs hme hr
  refine ⟨l ++ [], ?_, by simpa using h2, by rw [List.append_nil]; exact h3⟩
  exact h1.bind (q := fun _ => (.ret [] : Wk (List Int))) .ret
theorem runs_begEnd {me n : Nat} {now : Int} {s : Wd} (hs : s.ep = quiet now n) (hme : me < n) (hr : -1000 ≤ now ∧ now ≤ 1000000) : ∃ l, Runs ev0 (begEndP me n) s l [] ev0 { s with ep := quiet (now + 1) n } ∧ l.length = n + 6 ∧ ∀ a ∈ l, inR a := by
  obtain ⟨l, h1, h2, h3⟩ := begin_quiet hs hme hr
  refine ⟨l ++ [0], ?_, by simp [h2], fun a ha => ?_⟩
  · refine h1.bind (q := fun _ => (.ask (aSay me (-1)) fun _ => .ret [] : Wk (List Int))) (Runs.ask1 (tame_say me (-1)) (s1 := { s with ep := quiet (now + 1) n }) ?_ .ret)
    have := end_quiet (s := { s with ep := ⟨now + 1, (List.replicate n (-1)).set me now, List.replicate n []⟩ }) (now := now) (n := n) (me := me) rfl hme
    rw [show aSay me (-1) { s with ep := ⟨now + 1, (List.replicate n (-1)).set me now, List.replicate n []⟩ } = (0, (aSay me (-1) { s with ep := ⟨now + 1, (List.replicate n (-1)).set me now, List.replicate n []⟩ }).2) from rfl, this]
  · simp at ha
    rcases ha with ha | rfl
    · exact h3 a ha
    · exact ⟨by omega, by omega⟩
theorem HB_all {l : List Int} {n : Nat} {s : Wd} (hl : ∀ a ∈ l, inR a) (hs : s.ep.said.length = n) : ∀ log s1, log <+: l → s1.ep.said.length = s.ep.said.length → HB n ⟨log, 0, false, s1⟩ := fun log s1 h1 h2 => ⟨h2.trans hs, fun _ a ha => hl a (h1.subset ha)⟩
theorem wdL_cells {w0 w : World} {c : Wc} {s : Wd} {Z : List Piece} (h : Heap w0 w (wdL c s ++ Z)) : w.cell? ⟨c.wb, 0, none⟩ = some (.pointer (some ⟨c.ab, 0, none⟩)) ∧ w.cell? ⟨c.wb, 1, none⟩ = some (.pointer (some ⟨c.rb, 0, none⟩)) ∧ w.cell? ⟨c.wb, 2, none⟩ = some (.pointer (some ⟨c.eb, 0, none⟩)) ∧ w.cell? ⟨c.wb, 3, none⟩ = some (.int .i64 c.a) ∧ w.cell? ⟨c.wb, 4, none⟩ = some (.int .i64 c.b) ∧ w.cell? ⟨c.wb, 5, none⟩ = some (.int .i64 c.entry) := by
  have B := h.blk 0 rfl
  exact ⟨B.cell 0, B.cell 1, B.cell 2, B.cell 3, B.cell 4, B.cell 5⟩
section
variable {w : World}
theorem Awake_calls (w : World) : Calls Try.prog 15 #[] w fun e w' => e = .returned (.bool true) ∧ Fr nob w w' := by
  obtain ⟨l, hr, hl, hR⟩ := runs_begs (me := 0) (n := 1) (now := 0) (s := wd0 1 9 9) rfl (by omega) (by omega)
  have C := Lib.hid (New_wd (Heap.start w) 2 3 1 9 9 (by omega) (by omega) (by omega) (by omega) (by omega))
  go_enter Try.func15, Try.ntmps15
  go_wp2_with fail
  refine C.out.mono ?_
  rintro e w1 ⟨c, _, _, _, rfl, H⟩
  have H1 : Heap w w1 (wdL c (wd0 1 9 9) ++ []) := by rw [List.append_nil]; exact H
  have CS := Lib.hid (Start_alone (me := 0) (f := 64) (first := #[]) (cap := #[]) (p := begsP 0 1) (H := HB 1) H1 (fun M b tb hM => awk_does (me := (0 : Nat)) (wdPl_is c _ _ tb) hM) awk_enters (ok_new (by omega)) (by omega) (ev0_is _) hr (by omega) (by simp) (HB_all hR rfl))
  clear C H H1
  go_wp2_with fail
  refine CS.out.mono ?_
  rintro e w2 ⟨tb, rfl, CA⟩
  clear CS
  go_wp2_with fail
  refine CA.out.mono ?_
  rintro e w3 ⟨a2, cp2, rfl, H3, ok3, _⟩
  rw [hl]
  clear CA
  obtain ⟨v0, v1, v2, v3, v4, v5⟩ := wdL_cells H3
  have CS1 := Lib.hid (Said_h H3 3 rfl 0)
  have CN1 := Lib.hid (Now_h H3 3 rfl)
  have HF := Lib.hid H3.fr
  clear H3 ok3
  go_wp2_with fail
  refine CS1.out.mono ?_
  rintro e w' ⟨rfl, hw⟩
  have hw := hw.symm
  subst hw
  go_wp2_with fail
  refine CN1.out.mono ?_
  rintro e w' ⟨rfl, hw⟩
  have hw := hw.symm
  subst hw
  go_wp2_with fail
  go_ret
  exact ⟨rfl, HF.out⟩
set_option maxHeartbeats 4000000 in
theorem WorldEnds_walk (threads : Int) (ht : 0 ≤ threads ∧ threads ≤ 255) (me : Int) (hm : 0 ≤ me ∧ me ≤ 255) (times : Int) (htm : 0 ≤ times ∧ times ≤ 255) (w : World) :
    Calls Try.prog 4 #[.int .u8 threads, .int .u8 me, .int .u8 times] w fun e w' => e = .returned (.bool true) ∧ Below w.heap.size w w' := by
  obtain ⟨t0, t1⟩ := ht
  obtain ⟨m0, m1⟩ := hm
  obtain ⟨q0, q1⟩ := htm
  obtain ⟨many, hmany⟩ : ∃ many : Nat, 1 + threads % 20 = (many : Int) := ⟨(1 + threads % 20).toNat, by omega⟩
  have hmb : 1 ≤ many ∧ many ≤ 20 := by omega
  obtain ⟨t, htt⟩ : ∃ t : Nat, me % (many : Int) = (t : Int) := ⟨(me % (many : Int)).toNat, by have := Int.emod_nonneg me (b := (many : Int)) (by omega); omega⟩
  have htl : t < many := by have := Int.emod_lt_of_pos me (b := (many : Int)) (by omega); omega
  obtain ⟨rounds, hrd⟩ : ∃ r : Nat, 1 + times % 8 = (r : Int) := ⟨(1 + times % 8).toNat, by omega⟩
  have hrb : rounds ≤ 8 := by omega
  have HB0 := Lib.hid (And.intro hmb (And.intro htl hrb))
  obtain ⟨hm1, hm2⟩ := hmb
  go_enter Try.func4, Try.ntmps4
  go_wp2_with fail
  refine (Awake_calls w).mono ?_
  rintro e w1 ⟨rfl, F1⟩
  have CS := Lib.hid (some_h ((Heap.start w).go F1) many 5 (by omega) (by omega))
  clear F1
  go_wp2_with fail
  refine CS.out.mono ?_
  rintro e w2 ⟨c, _, rfl, H⟩
  have HH : Hid (Heap w w2 (wdL c { wd0 many 5 20 with ep := quiet (0 : Nat) many })) := Lib.hid H
  have HO : Hid (WdOk 2 { wd0 many 5 20 with ep := quiet (0 : Nat) many }) := Lib.hid (ok_new (by omega))
  clear H CS
  go_wp2_with fail
  try simp only [htt, hmany, hrd]
  clear htt hmany hrd
  go_loopw [30] (fun i wr => ∃ k : Nat, i = .int .i64 (k : Nat) ∧ k ≤ rounds ∧ Hid (WdOk (2 + 26 * k) { wd0 many 5 20 with ep := quiet (k : Nat) many }) ∧ Hid (Heap w wr (wdL c { wd0 many 5 20 with ep := quiet (k : Nat) many }))) (fun i _ => rounds - (intOf i).toNat)
  case atStart => exact ⟨0, rfl, Nat.zero_le _, HO, HH⟩
  case round =>
    clear HH HO
    obtain ⟨k, rfl, hk, HO, HH⟩ := hrel
    by_cases hlt : k < rounds
    · obtain ⟨l, hr, hl, hR⟩ := runs_begEnd (me := t) (n := many) (now := (k : Nat)) (s := { wd0 many 5 20 with ep := quiet (k : Nat) many }) rfl htl (by omega)
      have H1 : Heap w wr (wdL c { wd0 many 5 20 with ep := quiet (k : Nat) many } ++ []) := by rw [List.append_nil]; exact HH.out
      have CS := Lib.hid (Start_alone (me := (t : Nat)) (f := 25) (first := #[]) (cap := #[]) (p := begEndP t many) (H := HB many) H1 (fun M b tb hM => wen_does (wdPl_is c _ _ tb) hM) wen_enters HO.out (by omega) (ev0_is _) hr (by omega) (by simp) (HB_all hR (by simp [quiet])))
      have hmax : max l.length 1 = many + 6 := by omega
      rw [hmax] at CS
      have HMX : Hid (2 + 26 * k + (many + 6) ≤ 2 + 26 * (k + 1)) := Lib.hid (by omega)
      clear H1 hr hl hR HH hmax HO
      go_wp2_with fail
      refine CS.out.mono ?_
      rintro e w2 ⟨tb, rfl, CA⟩
      clear CS
      go_wp2_with fail
      refine CA.out.mono ?_
      rintro e w3 ⟨a2, cp2, rfl, H3, ok3, _⟩
      clear CA
      obtain ⟨v0, v1, v2, v3, v4, v5⟩ := wdL_cells H3
      have hsaid : saidEp (t : Nat) (quiet ((k : Nat) + 1) many) = -1 := by
        unfold saidEp quiet
        rw [isT_nat (by simpa using htl)]
        simp [List.getD, List.getElem?_replicate, htl]
      have CS1 := Said_h H3 3 rfl (t : Nat)
      dsimp only at CS1
      rw [hsaid] at CS1
      have CS1 := Lib.hid CS1
      have CN1 := Now_h H3 3 rfl
      dsimp only [quiet] at CN1
      have CN1 := Lib.hid CN1
      have HF := Lib.hid H3.first
      have HO3 : Hid (WdOk (2 + 26 * (k + 1)) { wd0 many 5 20 with ep := quiet ((k : Nat) + 1) many }) := Lib.hid (ok3.up HMX.out)
      clear H3 ok3 hsaid HMX
      go_wp2_with fail
      refine CS1.out.mono ?_
      rintro e w' ⟨rfl, hw⟩
      have hw := hw.symm
      subst hw
      go_wp2_with fail
      refine CN1.out.mono ?_
      rintro e w' ⟨rfl, hw⟩
      have hw := hw.symm
      subst hw
      clear CS1 CN1
      go_wp2_with fail
      exact ⟨⟨k + 1, by go_num, by omega, HO3, HF⟩, by simp [intOf]; omega⟩
    · go_wp2_with fail
      go_ret
      exact ⟨rfl, HH.out.below⟩
end
end Go.Proofs.Ythkohomogknddaa
