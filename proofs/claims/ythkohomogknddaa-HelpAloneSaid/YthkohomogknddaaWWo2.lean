/- WorldBegins. No condition but that what is handed in can be read. -/
import Derived.Test.YthkohomogknddaaWWo1
import Derived.Test.YthkohomogknddaaScn
namespace Go.Proofs.Ythkohomogknddaa
open Go Go.RowKit
set_option linter.unusedVariables false
set_option linter.unusedSimpArgs false
set_option maxRecDepth 100000
theorem runs_begsX {me m : Nat} {now : Int} {xs : List Int} {s : Wd} (hs : s.ep = ⟨now, xs, List.replicate m []⟩) (hx : xs.length = m) (hme : me < m) (hr : -1000 ≤ now ∧ now ≤ 1000000) (hxr : ∀ a ∈ xs, -1000 ≤ a ∧ a ≤ 1000000) :
    ∃ l, Runs ev0 (begsP me m) s l [] ev0 { s with ep := ⟨if scanA now (xs.set me now) = true then now + 1 else now, xs.set me now, List.replicate m []⟩ } ∧ l.length = 4 + scanC now (xs.set me now) + (if scanA now (xs.set me now) = true then 1 else 0) ∧ ∀ a ∈ l, inR a := by
  obtain ⟨l, h1, h2, h3⟩ := begin_said hs hx hme hr hxr
  refine ⟨l ++ [], ?_, by simpa using h2, by rw [List.append_nil]; exact h3⟩
  exact h1.bind (q := fun _ => (.ret [] : Wk (List Int))) .ret
/-- A world in which some announced something. -/
def saidW (m : Nat) (now : Int) (ys : List Int) : Wd := { wd0 m 9 20 with ep := ⟨now, ys, List.replicate m []⟩ }
theorem saidW_ok {m N : Nat} {now : Int} {ys : List Int} (hN : 2 ≤ N) (hn : 0 ≤ now ∧ now ≤ N) (hy : ys.length = m) : WdOk N (saidW m now ys) := by
  have h := (ok_new (threads := m) (nodes := 9) (records := 20) (by omega)).up hN
  refine ⟨h.ar, ⟨hn, ?_, ?_, by show ys.length = (List.replicate m ([] : List (Int × Int))).length; simp [hy]⟩, h.rt⟩
  · intro l hl p hp
    simp [saidW] at hl
    rw [hl.2] at hp
    simp at hp
  · exact h.ep.few
set_option maxHeartbeats 8000000 in
theorem WorldBegins_walk (v0 : Value) (xs : List Int) (now : Int) (hnow : 0 ≤ now ∧ now ≤ 255) (me : Int) (hm : 0 ≤ me ∧ me ≤ 255) (w : World) (R0 : RdV w v0 xs.length 1 (xs.map (Value.int .i8))) (hx : ∀ n ∈ xs, (Lit.int .i8 n).wf = true) :
    Calls Try.prog 3 #[v0, .int .u8 now, .int .u8 me] w fun e w' => e = .returned (.bool true) ∧ Below w.heap.size w w' := by
  have hm0 := R0.short
  unfold maxLen at hm0
  obtain ⟨a0, c0, rfl⟩ := R0.len
  have HR0 := Lib.hid R0
  have HX := Lib.hid (fun n hn => bounds_i8 (hx n hn))
  clear R0 hx
  obtain ⟨n0, n1⟩ := hnow
  obtain ⟨m0, m1⟩ := hm
  go_enter Try.func3, Try.ntmps3
  go_wp2_with fail
  refine (Awake_calls w).mono ?_
  rintro e w1 ⟨rfl, F1⟩
  by_cases hn1 : xs.length < 1
  · go_wp2_with fail
    go_ret
    exact ⟨rfl, F1.below (Nat.le_refl _) (fun _ x => x.elim)⟩
  by_cases hn10 : 10 < xs.length
  · go_wp2_with fail
    go_ret
    exact ⟨rfl, F1.below (Nat.le_refl _) (fun _ x => x.elim)⟩
  obtain ⟨b0, rfl, _, _⟩ := HR0.out.at (by omega)
  obtain ⟨t, htt⟩ : ∃ t : Nat, me % (xs.length : Int) = (t : Int) := ⟨(me % (xs.length : Int)).toNat, by have := Int.emod_nonneg me (b := (xs.length : Int)) (by omega); omega⟩
  have htl : t < xs.length := by have := Int.emod_lt_of_pos me (b := (xs.length : Int)) (by omega); omega
  obtain ⟨q, hq⟩ : ∃ q : Nat, now % 6 = (q : Int) := ⟨(now % 6).toNat, by omega⟩
  have hq6 : q < 6 := by omega
  have CS := Lib.hid (some_h ((Heap.start w).go F1) xs.length 9 (by omega) (by omega))
  clear F1 hm0
  go_wp2_with fail
  refine CS.out.mono ?_
  rintro e w2 ⟨c, _, rfl, H⟩
  clear CS
  have HH : Hid (Heap w w2 (wdL c (saidW xs.length (0 : Nat) (List.replicate xs.length (-1))))) := Lib.hid H
  clear H
  go_wp2_with fail
  try simp only [htt, hq]
  clear htt hq
  go_loopw [43] (fun i wr => ∃ k : Nat, i = .int .i64 (k : Nat) ∧ k ≤ q ∧ Hid (Heap w wr (wdL c (saidW xs.length (k : Nat) (List.replicate xs.length (-1)))))) (fun i _ => q - (intOf i).toNat)
  case atStart => exact ⟨0, rfl, Nat.zero_le _, HH⟩
  case round =>
    clear HH
    obtain ⟨k, rfl, hk, HH⟩ := hrel
    by_cases hlt : k < q
    · obtain ⟨v0, v1, v2, v3, v4, v5⟩ := wdL_cells (Z := []) (by rw [List.append_nil]; exact HH.out)
      have C := Swap_h HH.out 3 rfl (k : Nat) ⟨by show (0 : Int) ≤ (k : Nat); omega, by show ((k : Nat) : Int) ≤ _; omega⟩
      have hsw : swapEp (k : Nat) (saidW xs.length (k : Nat) (List.replicate xs.length (-1))).ep = (saidW xs.length ((k + 1 : Nat) : Int) (List.replicate xs.length (-1))).ep := by
        unfold swapEp saidW; simp
      rw [hsw] at C
      have CC := Lib.hid C
      clear C hsw HH
      go_wp2_with fail
      refine CC.out.mono ?_
      rintro e w3 ⟨rfl, H3⟩
      have HH : Hid (Heap w w3 (wdL c (saidW xs.length ((k + 1 : Nat) : Int) (List.replicate xs.length (-1))))) := Lib.hid H3
      clear H3 CC v0 v1 v2 v3 v4 v5
      go_wp2_with fail
      exact ⟨⟨k + 1, by go_num, by omega, HH⟩, by simp [intOf]; omega⟩
    · obtain rfl : k = q := by omega
      clear hlt hk
      go_wp2_with fail
      have HS : Hid (∀ j x, xs[j]? = some x → (xs.take j ++ List.replicate (xs.length - j) (-1)).set j x = xs.take (j + 1) ++ List.replicate (xs.length - (j + 1)) (-1)) := Lib.hid (fun j x hj => by
        have hlt := (List.getElem?_eq_some_iff.1 hj).1
        rw [List.set_append_right _ _ (by simp; omega)]
        rw [show xs.length - j = (xs.length - (j + 1)) + 1 from by omega, List.replicate_succ]
        have e : j - (xs.take j).length = 0 := by simp; omega
        rw [e, List.set_cons_zero, List.take_succ_eq_append_getElem hlt]
        have := (List.getElem?_eq_some_iff.1 hj).2
        simp [this])
      go_loopw [11, 12, 55] (fun tc sa i wr => ∃ (j : Nat), i = .int .i64 (j : Nat) ∧ j ≤ xs.length ∧ tc = .int .i64 ((4 + scanC k ((xs.set t k).take j) : Nat) : Int) ∧ sa = .bool (scanA k ((xs.set t k).take j)) ∧ Hid (Heap w wr (wdL c (saidW xs.length (k : Nat) (xs.take j ++ List.replicate (xs.length - j) (-1)))))) (fun _ _ i _ => xs.length - (intOf i).toNat)
      case atStart => exact ⟨0, rfl, Nat.zero_le _, by simp [scanC], by simp [scanA], by simpa using HH⟩
      case round =>
        clear HH
        obtain ⟨j, rfl, hj, rfl, rfl, HH⟩ := hrel
        have hsc := scanC_le (k : Nat) ((xs.set t k).take j)
        have hsc2 : ((xs.set t (k : Int)).take j).length ≤ 10 := by simp; omega
        by_cases hjl : j < xs.length
        · obtain ⟨b9, e9, _, hat⟩ := (HR0.out.fr HH.out.fr (fun _ _ _ (x : nob _) => x)).at (by omega)
          obtain rfl := Option.some.inj e9
          obtain ⟨x, hxj⟩ : ∃ x, xs[j]? = some x := ⟨_, List.getElem?_eq_getElem hjl⟩
          have y1 := hat j (.int .i8 x) (by simp [hxj])
          obtain ⟨xb0, xb1⟩ := HX.out x (List.mem_of_getElem? hxj)
          obtain ⟨v0, v1, v2, v3, v4, v5⟩ := wdL_cells (Z := []) (by rw [List.append_nil]; exact HH.out)
          have C := Say_h HH.out 3 rfl (j : Nat) x
          have hsy : sayEp (j : Nat) x (saidW xs.length (k : Nat) (xs.take j ++ List.replicate (xs.length - j) (-1))).ep = (saidW xs.length (k : Nat) (xs.take (j + 1) ++ List.replicate (xs.length - (j + 1)) (-1))).ep := by
            unfold sayEp saidW
            rw [isT_nat (by simp; omega), if_pos rfl]
            simp only [Int.toNat_natCast]
            rw [HS.out j x hxj]
          rw [hsy] at C
          have hyj : (xs.set t (k : Int))[j]? = some (if j = t then (k : Int) else x) := by
            by_cases h : j = t
            · subst h; rw [List.getElem?_set_self hjl, if_pos rfl]
            · rw [List.getElem?_set_ne (fun e => h e.symm), if_neg h]; exact hxj
          have htk : (xs.set t (k : Int)).take (j + 1) = (xs.set t (k : Int)).take j ++ [if j = t then (k : Int) else x] := by
            obtain ⟨h1, h2⟩ := List.getElem?_eq_some_iff.1 hyj
            rw [List.take_succ_eq_append_getElem h1, h2]
          obtain ⟨sn1, sn2⟩ := scan_snoc (k : Int) (if j = t then (k : Int) else x) ((xs.set t (k : Int)).take j)
          rw [← htk] at sn1 sn2
          have CC := Lib.hid C
          have SN := Lib.hid (And.intro sn1 sn2)
          have HSC := Lib.hid (And.intro hsc hsc2)
          have hb : scanC (k : Int) ((xs.set t (k : Int)).take j) ≤ 10 := by omega
          generalize hC : scanC (k : Int) ((xs.set t (k : Int)).take j) = C0 at *
          generalize hA : scanA (k : Int) ((xs.set t (k : Int)).take j) = A0 at *
          have HCA := Lib.hid (And.intro hC hA)
          clear C hsy HH hat hyj htk sn1 sn2 hsc hsc2 hC hA hxj
          go_wp2_with fail
          refine CC.out.mono ?_
          rintro e w3 ⟨rfl, H3⟩
          have HH := Lib.hid H3
          clear H3 CC v0 v1 v2 v3 v4 v5 y1
          have hcs : (((j : Int) != (t : Int)) = false ∧ ¬ ((if j = t then (k : Int) else x) ≠ -1 ∧ (if j = t then (k : Int) else x) ≠ k)) ∨ (((j : Int) != (t : Int)) = true ∧ (x != -1) = false ∧ ¬ ((if j = t then (k : Int) else x) ≠ -1 ∧ (if j = t then (k : Int) else x) ≠ k)) ∨ (((j : Int) != (t : Int)) = true ∧ (x != -1) = true ∧ (x != (k : Int)) = false ∧ ¬ ((if j = t then (k : Int) else x) ≠ -1 ∧ (if j = t then (k : Int) else x) ≠ k)) ∨ (((j : Int) != (t : Int)) = true ∧ (x != -1) = true ∧ (x != (k : Int)) = true ∧ ((if j = t then (k : Int) else x) ≠ -1 ∧ (if j = t then (k : Int) else x) ≠ k)) := by
            by_cases h1 : j = t
            · left; subst h1; simp
            · right
              have h1' : ((j : Int) != (t : Int)) = true := by simp; omega
              rw [if_neg h1]
              by_cases h2 : x = -1
              · left; subst h2; exact ⟨h1', by simp, by simp⟩
              · right
                by_cases h3 : x = k
                · left; exact ⟨h1', by simpa using h2, by simp [h3], by simp [h3]⟩
                · right; exact ⟨h1', by simpa using h2, by simpa using h3, h2, h3⟩
          rcases hcs with ⟨g1, hd⟩ | ⟨g1, g2, hd⟩ | ⟨g1, g2, g3, hd⟩ | ⟨g1, g2, g3, hd⟩
          · have HD := Lib.hid hd
            clear hd
            cases A0
            · go_wp2_with fail
              exact ⟨⟨j + 1, by go_num, by omega, by rw [SN.out.1]; simp <;> omega, by rw [SN.out.2]; first | rfl | (rw [decide_eq_true HD.out]; rfl) | (rw [decide_eq_false (fun h => h HD.out)]; rfl), HH⟩, by simp [intOf]; omega⟩
            · go_wp2_with fail
              exact ⟨⟨j + 1, by go_num, by omega, by rw [SN.out.1]; simp <;> omega, by rw [SN.out.2]; first | rfl | (rw [decide_eq_true HD.out]; rfl) | (rw [decide_eq_false (fun h => h HD.out)]; rfl), HH⟩, by simp [intOf]; omega⟩
          · have HD := Lib.hid hd
            clear hd
            cases A0
            · go_wp2_with fail
              exact ⟨⟨j + 1, by go_num, by omega, by rw [SN.out.1]; simp <;> omega, by rw [SN.out.2]; first | rfl | (rw [decide_eq_true HD.out]; rfl) | (rw [decide_eq_false (fun h => h HD.out)]; rfl), HH⟩, by simp [intOf]; omega⟩
            · go_wp2_with fail
              exact ⟨⟨j + 1, by go_num, by omega, by rw [SN.out.1]; simp <;> omega, by rw [SN.out.2]; first | rfl | (rw [decide_eq_true HD.out]; rfl) | (rw [decide_eq_false (fun h => h HD.out)]; rfl), HH⟩, by simp [intOf]; omega⟩
          · have HD := Lib.hid hd
            clear hd
            cases A0
            · go_wp2_with fail
              exact ⟨⟨j + 1, by go_num, by omega, by rw [SN.out.1]; simp <;> omega, by rw [SN.out.2]; first | rfl | (rw [decide_eq_true HD.out]; rfl) | (rw [decide_eq_false (fun h => h HD.out)]; rfl), HH⟩, by simp [intOf]; omega⟩
            · go_wp2_with fail
              exact ⟨⟨j + 1, by go_num, by omega, by rw [SN.out.1]; simp <;> omega, by rw [SN.out.2]; first | rfl | (rw [decide_eq_true HD.out]; rfl) | (rw [decide_eq_false (fun h => h HD.out)]; rfl), HH⟩, by simp [intOf]; omega⟩
          · have HD := Lib.hid hd
            clear hd
            cases A0
            · go_wp2_with fail
              exact ⟨⟨j + 1, by go_num, by omega, by rw [SN.out.1]; simp <;> omega, by rw [SN.out.2]; first | rfl | (rw [decide_eq_true HD.out]; rfl) | (rw [decide_eq_false (fun h => h HD.out)]; rfl), HH⟩, by simp [intOf]; omega⟩
            · go_wp2_with fail
              exact ⟨⟨j + 1, by go_num, by omega, by rw [SN.out.1]; simp <;> omega, by rw [SN.out.2]; first | rfl | (rw [decide_eq_true HD.out]; rfl) | (rw [decide_eq_false (fun h => h HD.out)]; rfl), HH⟩, by simp [intOf]; omega⟩
        · obtain rfl : j = xs.length := by omega
          have htk : (xs.set t (k : Int)).take xs.length = xs.set t (k : Int) := List.take_of_length_le (by simp)
          have hsd : xs.take xs.length ++ List.replicate (xs.length - xs.length) (-1) = xs := by simp
          rw [hsd] at HH
          rw [htk] at hsc hsc2
          simp only [htk]
          obtain ⟨l, hr, hl, hR⟩ := runs_begsX (me := t) (m := xs.length) (now := (k : Nat)) (xs := xs) (s := saidW xs.length (k : Nat) xs) rfl rfl htl (by omega) (fun a ha => by have := HX.out a ha; omega)
          generalize hC : scanC (k : Int) (xs.set t (k : Int)) = C0 at *
          generalize hA : scanA (k : Int) (xs.set t (k : Int)) = A0 at *
          have H1 : Heap w wr (wdL c (saidW xs.length (k : Nat) xs) ++ []) := by rw [List.append_nil]; exact HH.out
          have CS := Lib.hid (Start_alone (me := (t : Nat)) (f := 21) (first := #[]) (cap := #[]) (p := begsP t xs.length) (H := HB xs.length) H1 (fun M b tb hM => wbg_does (wdPl_is c _ _ tb) hM) wbg_enters (saidW_ok (N := 20) (by omega) (by omega) rfl) (by omega) (ev0_is _) hr (by rw [hl]; split <;> omega) (by simp) (HB_all hR rfl))
          have hmx : max l.length 1 = 4 + C0 + (if A0 = true then 1 else 0) := by rw [hl]; split <;> omega
          rw [hmx] at CS
          have hC10 : C0 ≤ 10 := by omega
          clear hr hl hR H1 HH hmx htk hsd hC hA hsc hsc2
          cases A0
          · simp only [Bool.false_eq_true, if_false] at CS
            go_wp2_with fail
            refine CS.out.mono ?_
            rintro e w3 ⟨tb, rfl, CA⟩
            clear CS
            go_wp2_with fail
            refine CA.out.mono ?_
            rintro e w4 ⟨a2, cp2, rfl, H4, ok4, _⟩
            clear CA ok4
            obtain ⟨v0, v1, v2, v3, v4, v5⟩ := wdL_cells H4
            have CN := Lib.hid (Now_h H4 3 rfl)
            have HH4 := Lib.hid H4
            clear H4
            go_wp2_with fail
            refine CN.out.mono ?_
            rintro e w' ⟨rfl, hw⟩
            have hw := hw.symm
            subst hw
            clear CN
            go_wp2_with fail
            go_loopw [117] (fun i wr => ∃ j : Nat, i = .int .i64 (j : Nat) ∧ j ≤ xs.length ∧ wr = w4) (fun i _ => xs.length - (intOf i).toNat)
            case atStart => exact ⟨0, rfl, Nat.zero_le _, rfl⟩
            case round =>
              obtain ⟨j, rfl, hj, rfl⟩ := hrel
              by_cases hjl : j < xs.length
              · obtain ⟨b9, e9, _, hat⟩ := (HR0.out.fr HH4.out.fr (fun _ _ _ (x : nob _) => x)).at (by omega)
                obtain rfl := Option.some.inj e9
                obtain ⟨x, hxj⟩ : ∃ x, xs[j]? = some x := ⟨_, List.getElem?_eq_getElem hjl⟩
                have y1 := hat j (.int .i8 x) (by simp [hxj])
                obtain ⟨xb0, xb1⟩ := HX.out x (List.mem_of_getElem? hxj)
                have C := Said_h HH4.out 3 rfl (j : Nat)
                have hsy : saidEp (j : Nat) ({ saidW xs.length (k : Nat) xs with ep := ⟨(k : Nat), xs.set t (k : Int), List.replicate xs.length []⟩ } : Wd).ep = if j = t then (k : Int) else x := by
                  have hln : j < (xs.set t (k : Int)).length := by simpa using hjl
                  rw [saidEp_get (e := ⟨(k : Nat), xs.set t (k : Int), List.replicate xs.length []⟩) hln]
                  show (xs.set t (k : Int))[j] = _
                  rw [List.getElem_set]
                  by_cases h : j = t
                  · subst h; simp
                  · rw [if_neg (fun e => h e.symm), if_neg h]
                    exact (List.getElem?_eq_some_iff.1 hxj).2
                have C := C.mono (R' := fun e w' => e = .returned (.int .i64 (if j = t then (k : Int) else x)) ∧ w' = wr) (fun e w' h => by rw [← hsy]; exact h)
                clear hat hxj hsy
                by_cases hjt : j = t
                · rw [if_pos hjt] at C
                  have CC := Lib.hid C
                  have g1 : ((j : Int) == (t : Int)) = true := by simp; omega
                  have g2 : ((j : Int) != (t : Int)) = false := by simp; omega
                  have HJ := Lib.hid hjt
                  clear C hjt
                  go_wp2_with fail
                  refine CC.out.mono ?_
                  rintro e w' ⟨rfl, hw⟩
                  have hw := hw.symm
                  subst hw
                  clear CC
                  go_wp2_with fail
                  exact ⟨⟨j + 1, by go_num, by omega, trivial⟩, by simp [intOf]; omega⟩
                · rw [if_neg hjt] at C
                  have CC := Lib.hid C
                  have g1 : ((j : Int) == (t : Int)) = false := by simp; omega
                  have g2 : ((j : Int) != (t : Int)) = true := by simp; omega
                  have HJ := Lib.hid hjt
                  clear C hjt
                  go_wp2_with fail
                  refine CC.out.mono ?_
                  rintro e w' ⟨rfl, hw⟩
                  have hw := hw.symm
                  subst hw
                  clear CC
                  go_wp2_with fail
                  exact ⟨⟨j + 1, by go_num, by omega, trivial⟩, by simp [intOf]; omega⟩
              · go_wp2_with fail
                go_ret
                exact ⟨rfl, HH4.out.below⟩
          · simp only [if_true] at CS
            go_wp2_with fail
            refine CS.out.mono ?_
            rintro e w3 ⟨tb, rfl, CA⟩
            clear CS
            go_wp2_with fail
            refine CA.out.mono ?_
            rintro e w4 ⟨a2, cp2, rfl, H4, ok4, _⟩
            clear CA ok4
            obtain ⟨v0, v1, v2, v3, v4, v5⟩ := wdL_cells H4
            have CN := Lib.hid (Now_h H4 3 rfl)
            have HH4 := Lib.hid H4
            clear H4
            go_wp2_with fail
            refine CN.out.mono ?_
            rintro e w' ⟨rfl, hw⟩
            have hw := hw.symm
            subst hw
            clear CN
            go_wp2_with fail
            go_loopw [117] (fun i wr => ∃ j : Nat, i = .int .i64 (j : Nat) ∧ j ≤ xs.length ∧ wr = w4) (fun i _ => xs.length - (intOf i).toNat)
            case atStart => exact ⟨0, rfl, Nat.zero_le _, rfl⟩
            case round =>
              obtain ⟨j, rfl, hj, rfl⟩ := hrel
              by_cases hjl : j < xs.length
              · obtain ⟨b9, e9, _, hat⟩ := (HR0.out.fr HH4.out.fr (fun _ _ _ (x : nob _) => x)).at (by omega)
                obtain rfl := Option.some.inj e9
                obtain ⟨x, hxj⟩ : ∃ x, xs[j]? = some x := ⟨_, List.getElem?_eq_getElem hjl⟩
                have y1 := hat j (.int .i8 x) (by simp [hxj])
                obtain ⟨xb0, xb1⟩ := HX.out x (List.mem_of_getElem? hxj)
                have C := Said_h HH4.out 3 rfl (j : Nat)
                have hsy : saidEp (j : Nat) ({ saidW xs.length (k : Nat) xs with ep := ⟨((k : Nat) : Int) + 1, xs.set t (k : Int), List.replicate xs.length []⟩ } : Wd).ep = if j = t then (k : Int) else x := by
                  have hln : j < (xs.set t (k : Int)).length := by simpa using hjl
                  rw [saidEp_get (e := ⟨((k : Nat) : Int) + 1, xs.set t (k : Int), List.replicate xs.length []⟩) hln]
                  show (xs.set t (k : Int))[j] = _
                  rw [List.getElem_set]
                  by_cases h : j = t
                  · subst h; simp
                  · rw [if_neg (fun e => h e.symm), if_neg h]
                    exact (List.getElem?_eq_some_iff.1 hxj).2
                have C := C.mono (R' := fun e w' => e = .returned (.int .i64 (if j = t then (k : Int) else x)) ∧ w' = wr) (fun e w' h => by rw [← hsy]; exact h)
                clear hat hxj hsy
                by_cases hjt : j = t
                · rw [if_pos hjt] at C
                  have CC := Lib.hid C
                  have g1 : ((j : Int) == (t : Int)) = true := by simp; omega
                  have g2 : ((j : Int) != (t : Int)) = false := by simp; omega
                  have HJ := Lib.hid hjt
                  clear C hjt
                  go_wp2_with fail
                  refine CC.out.mono ?_
                  rintro e w' ⟨rfl, hw⟩
                  have hw := hw.symm
                  subst hw
                  clear CC
                  go_wp2_with fail
                  exact ⟨⟨j + 1, by go_num, by omega, trivial⟩, by simp [intOf]; omega⟩
                · rw [if_neg hjt] at C
                  have CC := Lib.hid C
                  have g1 : ((j : Int) == (t : Int)) = false := by simp; omega
                  have g2 : ((j : Int) != (t : Int)) = true := by simp; omega
                  have HJ := Lib.hid hjt
                  clear C hjt
                  go_wp2_with fail
                  refine CC.out.mono ?_
                  rintro e w' ⟨rfl, hw⟩
                  have hw := hw.symm
                  subst hw
                  clear CC
                  go_wp2_with fail
                  exact ⟨⟨j + 1, by go_num, by omega, trivial⟩, by simp [intOf]; omega⟩
              · go_wp2_with fail
                go_ret
                exact ⟨rfl, HH4.out.below⟩
end Go.Proofs.Ythkohomogknddaa
