/- WorldFrees. No condition but that what is handed in can be read. -/
import Derived.Test.YthkohomogknddaaWWo2
import Derived.Test.YthkohomogknddaaFre
import Derived.Test.YthkohomogknddaaUse
namespace Go.Proofs.Ythkohomogknddaa
open Go Go.RowKit
set_option linter.unusedVariables false
set_option linter.unusedSimpArgs false
set_option maxRecDepth 100000
/-- The world of WorldFrees: k nodes, j of them freed; the epoch, what both announced, what the first one let go. -/
def frW (k j : Nat) (f : Int) (now : Int) (sd : List Int) (g : List (Int × Int)) : Wd := ⟨frS 40 k j f, ⟨[], 20⟩, ⟨now, sd, [g, []]⟩⟩
theorem frS_ok {k j N : Nat} {f : Int} (h : j ≤ k) (hk : k ≤ 20) (hf : 0 ≤ f ∧ f ≤ 30) (hN : 60 ≤ N) : OkN (frS 40 k j f) N := by
  refine ⟨⟨by show (0 : Int) ≤ 40; omega, by show (40 : Int) ≤ 65536; omega⟩, ?_, by rw [frS_len h]; omega, fun s hs => ?_, ?_, fun i hi => ?_, by show ((List.range j).map (· + 2)).length ≤ N; simp; omega⟩
  · show -(N : Int) ≤ 2 + ((k - j : Nat) : Int) ∧ 2 + ((k - j : Nat) : Int) ≤ N; omega
  · simp only [frS, List.mem_append, List.mem_cons, List.not_mem_nil, or_false, List.mem_replicate] at hs
    rcases hs with (rfl | rfl) | ⟨_, rfl⟩ | ⟨_, rfl⟩
    · exact ⟨by show 1 ≤ N; omega, by simp [rootSl, rootNd, Nd.few]⟩
    · exact ⟨by show 1 ≤ N; omega, by simp [entrySl, entryNd, Nd.few]⟩
    · exact ⟨by show 1 ≤ N; omega, noNd_few⟩
    · exact ⟨by show 1 ≤ N; omega, noNd_few⟩
  · show 0 ≤ f ∧ f ≤ N; omega
  · rw [frS_len h]
    simp only [frS, List.mem_map, List.mem_range] at hi
    obtain ⟨a, ha, rfl⟩ := hi
    omega
theorem goneL_len : ∀ (l : List Int) (j : Nat), (goneL j l).length = l.length
  | [], _ => rfl
  | x :: l, j => by simp [goneL, goneL_len l (j + 1)]
theorem goneL_ats : ∀ (l : List Int) (j : Nat) (p : Int × Int), p ∈ goneL j l → p.2 ∈ l
  | [], _, p, h => by simp [goneL] at h
  | x :: l, j, p, h => by
    simp only [goneL, List.mem_cons] at h
    rcases h with rfl | h
    · simp
    · exact List.mem_cons_of_mem _ (goneL_ats l (j + 1) p h)
theorem frW_ok {k j N : Nat} {f now : Int} {sd : List Int} {i : Nat} {ats : List Int} (h : j ≤ k) (hk : k ≤ 20) (hf : 0 ≤ f ∧ f ≤ 30) (hN : 60 ≤ N) (hn : 0 ≤ now ∧ now ≤ N) (hsd : sd.length = 2) (ha : ∀ a ∈ ats, 0 ≤ a ∧ a ≤ 255) (hl : ats.length ≤ 20) : WdOk N (frW k j f now sd (goneL i ats)) := by
  refine ⟨frS_ok h hk hf hN, ⟨hn, fun l hl p hp => ?_, ?_, hsd⟩, fun e he => by simp [frW] at he⟩
  · simp [frW] at hl
    rcases hl with rfl | rfl
    · have := ha _ (goneL_ats _ _ _ hp); omega
    · simp at hp
  · show waits [goneL i ats, []] ≤ N
    have := goneL_len ats i
    simp [waits]; omega
theorem runs_frees {m : Nat} {n sd1 : Int} {ats : List Int} (hm : ats.length = m) (hm20 : m ≤ 20) (hn : 0 ≤ n ∧ n ≤ 12) (h1 : sd1 = -1 ∨ sd1 = n - 1) (now2 : Int) (hnow : now2 = if sd1 = -1 then n + 1 else n) :
    ∃ l, Runs ev0 (begsP 0 2) (frW m 0 0 n [-1, sd1] (goneL 0 ats)) l [] ev0 (frW m (upto now2 ats) 0 now2 [n, sd1] (goneL (upto now2 ats) (ats.drop (upto now2 ats)))) ∧ l.length = 5 + (if sd1 = -1 then 1 else 0) + upto now2 ats + 1 ∧ ∀ a ∈ l, inR a := by
  have hB : begS 0 (frW m 0 0 n [-1, sd1] (goneL 0 ats)) = frW m 0 0 n [n, sd1] (goneL 0 ats) := rfl
  have s0 : saidEp 0 (frW m 0 0 n [n, sd1] (goneL 0 ats)).ep = n := rfl
  have s1 : saidEp 1 (frW m 0 0 n [n, sd1] (goneL 0 ats)).ep = sd1 := rfl
  have hsL : saidsL (frW m 0 0 n [n, sd1] (goneL 0 ats)) 2 0 n = [n, sd1] := by
    unfold saidsL
    rw [s0, if_neg (by simp)]
    unfold saidsL
    rw [show (0 : Int) + 1 = 1 from rfl, s1]
    split <;> rfl
  have hsV : saidsV (frW m 0 0 n [n, sd1] (goneL 0 ats)) 2 0 n = decide (sd1 = -1) := by
    unfold saidsV
    rw [s0, if_neg (by simp)]
    unfold saidsV
    rw [show (0 : Int) + 1 = 1 from rfl, s1]
    by_cases h : sd1 = -1
    · rw [if_neg (by simp [h])]; simp [h, saidsV]
    · rw [if_pos ⟨h, by omega⟩]; simp [h]
  have hall : begAll 0 (frW m 0 0 n [-1, sd1] (goneL 0 ats)) = decide (sd1 = -1) := by
    unfold begAll
    rw [hB]
    exact hsV
  have hB2 : begS2 0 (frW m 0 0 n [-1, sd1] (goneL 0 ats)) = frW m 0 0 now2 [n, sd1] (goneL 0 ats) := by
    unfold begS2
    rw [hall, hB, hnow]
    by_cases h : sd1 = -1
    · rw [if_pos (by simp [h]), if_pos h]
      unfold aSwap swapEp frW
      simp
    · rw [if_neg (by simp [h]), if_neg h]
  obtain ⟨l, r1, r2, r3⟩ := runs_pop (now := now2) (sd := [n, sd1]) (k := m) (most := 40) (by omega) rfl ats 0 1000 (frW m 0 0 now2 [n, sd1] (goneL 0 ats)) rfl rfl (by omega) (by omega)
  rw [Nat.zero_add] at r1
  have hb := runs_begin (me := 0) (s := frW m 0 0 n [-1, sd1] (goneL 0 ats)) (n := 2) (F := 1000) (l := l) rfl (by rw [hB2]; exact r1)
  refine ⟨begL 0 (frW m 0 0 n [-1, sd1] (goneL 0 ats)) ++ l ++ [], hb.bind (q := fun _ => (.ret [] : Wk (List Int))) .ret, ?_, fun a ha => ?_⟩
  · have e : begL 0 (frW m 0 0 n [-1, sd1] (goneL 0 ats)) = n :: 0 :: ([n, sd1] ++ ((if decide (sd1 = -1) = true then [1] else []) ++ [now2])) := by
      unfold begL
      rw [hall, hB, hB2]
      show n :: 0 :: (saidsL (frW m 0 0 n [n, sd1] (goneL 0 ats)) 2 0 n ++ _) = _
      rw [hsL]; rfl
    rw [e]
    simp only [List.append_nil, List.length_append, List.length_cons, List.length_nil, r2, decide_eq_true_eq]
    split <;> simp <;> omega
  · have e : begL 0 (frW m 0 0 n [-1, sd1] (goneL 0 ats)) = n :: 0 :: ([n, sd1] ++ ((if decide (sd1 = -1) = true then [1] else []) ++ [now2])) := by
      unfold begL
      rw [hall, hB, hB2]
      show n :: 0 :: (saidsL (frW m 0 0 n [n, sd1] (goneL 0 ats)) 2 0 n ++ _) = _
      rw [hsL]; rfl
    rw [e, List.append_nil] at ha
    have hn2 : inR now2 := by rw [hnow]; unfold inR; split <;> omega
    have hs1 : inR sd1 := by unfold inR; omega
    simp only [List.mem_append, List.mem_cons, List.not_mem_nil, or_false, List.cons_append, List.nil_append] at ha
    rcases ha with rfl | rfl | rfl | rfl | (ha | rfl) | ha
    · exact ⟨by omega, by omega⟩
    · exact ⟨by omega, by omega⟩
    · exact ⟨by omega, by omega⟩
    · exact hs1
    · split at ha
      · simp at ha; subst ha; exact ⟨by omega, by omega⟩
      · simp at ha
    · exact hn2
    · exact r3 a ha
/-- The row of what was told. -/
def toldV (k : Nat) : List Value := intC ((List.range k).map told)
theorem toldV_snoc (k : Nat) : toldV k ++ [.int .i64 (told k)] = toldV (k + 1) := by
  unfold toldV intC
  rw [List.range_succ, List.map_append, List.map_append]; rfl
theorem toldV_get {k i : Nat} (h : i < k) : (toldV k)[i]? = some (.int .i64 (told i)) := by
  unfold toldV intC
  rw [List.getElem?_map, List.getElem?_map, List.getElem?_range h]; rfl
theorem toldV_len (k : Nat) : (toldV k).length = k := by simp [toldV, intC]
set_option maxHeartbeats 8000000 in
theorem WorldFrees_walk (v0 : Value) (xs : List Int) (now : Int) (hnow : 0 ≤ now ∧ now ≤ 255) (other : Bool) (w : World) (R0 : RdV w v0 xs.length 1 (xs.map (Value.int .u8))) (hx : ∀ n ∈ xs, (Lit.int .u8 n).wf = true) :
    Calls Try.prog 6 #[v0, .int .u8 now, .bool other] w fun e w' => e = .returned (.bool true) ∧ Below w.heap.size w w' := by
  have hm0 := R0.short
  unfold maxLen at hm0
  obtain ⟨a0, c0, rfl⟩ := R0.len
  have HR0 := Lib.hid R0
  have HX := Lib.hid (fun n hn => bounds_u8 (hx n hn))
  clear R0 hx
  obtain ⟨n0, n1⟩ := hnow
  go_enter Try.func6, Try.ntmps6
  go_wp2_with fail
  refine (Awake_calls w).mono ?_
  rintro e w1 ⟨rfl, F1⟩
  by_cases hn20 : 20 < xs.length
  · go_wp2_with fail
    go_ret
    exact ⟨rfl, F1.below (Nat.le_refl _) (fun _ x => x.elim)⟩
  have CS := Lib.hid (some_h ((Heap.start w).go F1) 2 40 (by omega) (by omega))
  clear F1 hm0
  go_wp2_with fail
  refine CS.out.mono ?_
  rintro e w2 ⟨c, _, rfl, H⟩
  clear CS
  have H1 : Heap w w2 (wdL c (frW 0 0 0 0 [-1, -1] (goneL 0 ((xs.map (· % 10)).take 0)))) := H
  have HH : Hid (Heap w w2 (wdL c (frW 0 0 0 0 [-1, -1] (goneL 0 ((xs.map (· % 10)).take 0))) ++ [rowP 29 1 (.slice none 0 0) 0 (toldV 0)])) := Lib.hid (H1.rowNil _ _)
  obtain ⟨i0, hi0, hz0, hz1, hz2⟩ := info_parts info_ref
  have I0 := Lib.hid (And.intro hi0 (And.intro hz0 (And.intro hz1 hz2)))
  clear H H1 hi0 hz0 hz1 hz2
  go_wp2_with fail
  go_loopw [8, 30] (fun tv i wr => ∃ k : Nat, i = .int .i64 (k : Nat) ∧ k ≤ xs.length ∧ Hid (Heap w wr (wdL c (frW k 0 0 0 [-1, -1] (goneL 0 ((xs.map (· % 10)).take k))) ++ [rowP 29 1 tv k (toldV k)]))) (fun _ i _ => xs.length - (intOf i).toNat)
  case atStart => exact ⟨0, rfl, Nat.zero_le _, HH⟩
  case round =>
    clear HH
    obtain ⟨k, rfl, hk, HH⟩ := hrel
    by_cases hlt : k < xs.length
    · obtain ⟨b9, e9, _, hat⟩ := (HR0.out.fr HH.out.fr (fun _ _ _ (x : nob _) => x)).at (by omega)
      subst e9
      obtain ⟨x, hxj⟩ : ∃ x, xs[k]? = some x := ⟨_, List.getElem?_eq_getElem hlt⟩
      have y1 := hat k (.int .u8 x) (by simp [hxj])
      obtain ⟨xb0, xb1⟩ := HX.out x (List.mem_of_getElem? hxj)
      obtain ⟨ta, tc, rfl, _, _⟩ := (HH.out.row 4 (t := 29) (sz := 1) (n := k) (us := toldV k) rfl).form
      obtain ⟨v0, v1, v2, v3, v4, v5⟩ := wdL_cells HH.out
      have C := AllocNo_h HH.out 1 rfl ((frS_ok (Nat.zero_le k) (by omega) (by omega) (Nat.le_refl 60)).more (by omega)) false false
      have hal : allocAr ⟨false, false, [], [], []⟩ (frW k 0 0 0 [-1, -1] (goneL 0 ((xs.map (· % 10)).take k))).ar = ((told k, true), frS 40 (k + 1) 0 0) := frS_alloc (by omega)
      rw [hal] at C
      have CC := Lib.hid C
      have HT : Hid ((xs.map (· % 10)).take (k + 1) = (xs.map (· % 10)).take k ++ [x % 10]) := Lib.hid (by
        obtain ⟨h1, h2⟩ := List.getElem?_eq_some_iff.1 hxj
        rw [List.take_succ_eq_append_getElem (by simpa using h1)]
        simp [h2])
      clear C hal HH hat hxj
      go_wp2_with fail
      refine CC.out.mono ?_
      rintro e w3 ⟨rfl, H3⟩
      have H3 : Heap w w3 (wdL c ⟨frS 40 (k + 1) 0 0, ⟨[], 20⟩, ⟨0, [-1, -1], [goneL 0 ((xs.map (· % 10)).take k), []]⟩⟩ ++ [rowP 29 1 (.slice ta k tc) k (toldV k)]) := H3
      have HH := Lib.hid H3
      have QQ := Lib.hid (H3.row 4 (t := 29) (sz := 1) (n := k) (v := .slice ta k tc) (us := toldV k) rfl)
      have hlm' : k + 1 ≤ maxLen := by unfold maxLen; omega
      have hlb : (k + 1) * 8 ≤ 140737488355328 := by omega
      have HL := Lib.hid (And.intro hlm' hlb)
      clear CC H3 v0 v1 v2 v3 v4 v5 y1 hlm' hlb
      go_wp2_with (at_builtin; refine wpList_append_typed _ rfl _ _ _ (by rfl) 29 i0 (.int .i64 0) 1 8 Try.underlying50 I0.out.1 I0.out.2.1 I0.out.2.2.1 I0.out.2.2.2 rfl (by decide) (.slice ta k tc) k (toldV k) (by rfl) (QQ.out.fr (F := nob) (by repeat (first | exact Fr.refl _ _ | apply Fr.drew | apply Fr.alloc)) (fun _ _ _ x => x)) _ 1 [.int .i64 (told k)] (by rfl) (RdV.block (cs := #[.int .i64 (told k)]) (t := 29) (by repeat (first | exact Blk.new' rfl _ _ | apply Blk.drew | apply Blk.alloc)) rfl (by decide)) (by simp [Value.oneCell']) HL.out.1 HL.out.2 ?_)
      intro a' c' w4 q' grow hat'
      have G := HH.out.growRow 4 (t := 29) (sz := 1) (n := k) (v := .slice ta k tc) (us := toldV k) rfl (Fr.alloc (Fr.refl nob w3) (.cells #[.int .i64 (told k)] 29)) q' grow (fun g hg => (hat' g hg).imp_left (fun h => h.imp_right (fun h => by simpa using h)))
      rw [toldV_snoc] at G
      have HH := Lib.hid G
      have CL := Lib.hid (Leave_h G 3 rfl (frW_ok (f := 0) (now := 0) (sd := [-1, -1]) (i := 0) (k := k + 1) (j := 0) (N := 60) (Nat.zero_le _) (by omega) (by omega) (Nat.le_refl _) (by omega) rfl (ats := (xs.map (· % 10)).take k) (fun a ha => by
        obtain ⟨z, _, rfl⟩ := List.mem_map.1 (List.mem_of_mem_take ha); omega) (by simp; omega)).ep (by omega) 0 (told k) (x % 10))
      obtain ⟨v0, v1, v2, v3, v4, v5⟩ := wdL_cells (s := ⟨frS 40 (k + 1) 0 0, ⟨[], 20⟩, ⟨0, [-1, -1], [goneL 0 ((xs.map (· % 10)).take k), []]⟩⟩) (Z := [rowP 29 1 (.slice a' (k + 1) c') (k + 1) (toldV (k + 1))]) G
      clear G q' grow hat' QQ
      go_wp2_with fail
      refine CL.out.mono ?_
      rintro e w5 ⟨rfl, H5⟩
      have hle : leaveEp 0 (told k) (x % 10) ⟨0, [-1, -1], [goneL 0 ((xs.map (· % 10)).take k), []]⟩ = ⟨0, [-1, -1], [goneL 0 ((xs.map (· % 10)).take (k + 1)), []]⟩ := by
        rw [HT.out, goneL_snoc]
        unfold leaveEp
        rw [if_pos (show isT 0 ([-1, -1] : List Int).length = true from rfl)]
        have : ((xs.map (· % 10)).take k).length = k := by simp; omega
        rw [this, Nat.zero_add]
        rfl
      rw [hle] at H5
      have HH5 : Hid (Heap w w5 (wdL c (frW (k + 1) 0 0 0 [-1, -1] (goneL 0 ((xs.map (· % 10)).take (k + 1)))) ++ [rowP 29 1 (.slice a' (k + 1) c') (k + 1) (toldV (k + 1))])) := Lib.hid H5
      clear H5 hle CL HH v0 v1 v2 v3 v4 v5
      go_wp2_with fail
      exact ⟨⟨k + 1, by go_num, by omega, HH5⟩, by simp [intOf]; omega⟩
    · obtain rfl : k = xs.length := by omega
      have htk : (xs.map (· % 10)).take xs.length = xs.map (· % 10) := List.take_of_length_le (by simp)
      rw [htk] at HH
      obtain ⟨ats, hats⟩ : ∃ ats, xs.map (· % 10) = ats := ⟨_, rfl⟩
      have HA1 : Hid (ats.length = xs.length ∧ (∀ a ∈ ats, 0 ≤ a ∧ a ≤ 255) ∧ ∀ (j : Nat) (x : Int), xs[j]? = some x → ats[j]? = some (x % 10)) := Lib.hid ⟨by rw [← hats]; simp, fun a ha => by rw [← hats] at ha; obtain ⟨z, _, rfl⟩ := List.mem_map.1 ha; omega, fun j x hj => by rw [← hats, List.getElem?_map, hj]; rfl⟩
      rw [hats] at HH
      obtain ⟨q, hq⟩ : ∃ q : Nat, now % 12 = (q : Int) := ⟨(now % 12).toNat, by omega⟩
      have hq12 : q < 12 := by omega
      obtain ⟨ta, tc, rfl, _, _⟩ := (HH.out.row 4 (t := 29) (sz := 1) (n := xs.length) (us := toldV xs.length) rfl).form
      clear htk hats hlt hk
      go_wp2_with fail
      try simp only [hq]
      clear hq
      go_loopw [61] (fun i wr => ∃ k : Nat, i = .int .i64 (k : Nat) ∧ k ≤ q ∧ Hid (Heap w wr (wdL c (frW xs.length 0 0 (k : Nat) [-1, -1] (goneL 0 ats)) ++ [rowP 29 1 (.slice ta xs.length tc) xs.length (toldV xs.length)]))) (fun i _ => q - (intOf i).toNat)
      case atStart => exact ⟨0, rfl, Nat.zero_le _, HH⟩
      case round =>
        clear HH
        obtain ⟨k, rfl, hk, HH⟩ := hrel
        by_cases hlt : k < q
        · obtain ⟨v0, v1, v2, v3, v4, v5⟩ := wdL_cells HH.out
          have C := Swap_h HH.out 3 rfl (k : Nat) ⟨by show (0 : Int) ≤ (k : Nat); omega, by show ((k : Nat) : Int) ≤ _; omega⟩
          have hsw : swapEp (k : Nat) (frW xs.length 0 0 (k : Nat) [-1, -1] (goneL 0 ats)).ep = (frW xs.length 0 0 ((k + 1 : Nat) : Int) [-1, -1] (goneL 0 ats)).ep := by
            unfold swapEp frW; simp
          rw [hsw] at C
          have CC := Lib.hid C
          clear C hsw HH
          go_wp2_with fail
          refine CC.out.mono ?_
          rintro e w3 ⟨rfl, H3⟩
          have HH : Hid (Heap w w3 (wdL c (frW xs.length 0 0 ((k + 1 : Nat) : Int) [-1, -1] (goneL 0 ats)) ++ [rowP 29 1 (.slice ta xs.length tc) xs.length (toldV xs.length)])) := Lib.hid H3
          clear H3 CC v0 v1 v2 v3 v4 v5
          go_wp2_with fail
          exact ⟨⟨k + 1, by go_num, by omega, HH⟩, by simp [intOf]; omega⟩
        · obtain rfl : k = q := by omega
          clear hlt hk
          cases other
          · have HS := HH
            clear HH
            obtain ⟨l, r1, r2, r3⟩ := runs_frees (m := xs.length) (n := ((k : Nat) : Int)) (sd1 := -1) (ats := ats) HA1.out.1 (by omega) (by omega) (by omega) (((k : Nat) : Int) + 1) (by simp <;> omega)
            have hUl := upto_le (((k : Nat) : Int) + 1) ats
            generalize hU : upto (((k : Nat) : Int) + 1) ats = U at *
            have hU20 : U ≤ xs.length := by have := HA1.out.1; omega
            have hl : l.length = 6 + U + 1 := by rw [r2]; first | rfl | (rw [if_neg (by omega)])
            have CS := Lib.hid (Start_alone (me := 0) (f := 32) (first := #[]) (cap := #[]) (p := begsP 0 2) (H := HB 2) HS.out (fun M b tb hM => wfr_does (me := (0 : Nat)) (wdPl_is c _ _ tb) hM) wfr_enters (frW_ok (f := 0) (now := ((k : Nat) : Int)) (sd := [-1, -1]) (i := 0) (k := xs.length) (j := 0) (N := 60) (Nat.zero_le _) (by omega) (by omega) (Nat.le_refl _) (by omega) rfl HA1.out.2.1 (by have := HA1.out.1; omega)) (by omega) (ev0_is _) r1 (by omega) (by simp) (HB_all r3 rfl))
            have hmx : max l.length 1 = 6 + U + 1 := by omega
            rw [hmx] at CS
            have HUU := Lib.hid hU
            clear r1 r2 r3 hl hmx hUl hU HS
            go_wp2_with fail
            refine CS.out.mono ?_
            rintro e w3 ⟨tb, rfl, CA⟩
            clear CS
            go_wp2_with fail
            refine CA.out.mono ?_
            rintro e w4 ⟨a2, cp2, rfl, H4, ok4, _⟩
            clear CA ok4
            have H4 : Heap w w4 ((wdL c (frW xs.length U 0 (((k : Nat) : Int) + 1) [((k : Nat) : Int), -1] (goneL U (ats.drop U))) ++ [rowP 29 1 (.slice ta xs.length tc) xs.length (toldV xs.length)]) ++ [rowP 2 1 (.slice a2 0 cp2) 0 []]) := by rw [List.append_assoc]; exact H4
            have HH4 := Lib.hid H4.first
            clear H4
            go_wp2_with fail
            go_loopw [19] (fun f wr => ∃ j : Nat, f = .int .i64 (j : Nat) ∧ j ≤ U ∧ wr = w4) (fun i _ => xs.length - (intOf i).toNat)
            case atStart => exact ⟨0, rfl, Nat.zero_le _, rfl⟩
            case round =>
              obtain ⟨j, rfl, hj, rfl⟩ := hrel
              by_cases hjU : j < U
              · obtain ⟨b9, e9, _, hat⟩ := (HR0.out.fr HH4.out.fr (fun _ _ _ (x : nob _) => x)).at (by omega)
                subst e9
                obtain ⟨x, hxj⟩ : ∃ x, xs[j]? = some x := ⟨_, List.getElem?_eq_getElem (by omega)⟩
                have y1 := hat j (.int .u8 x) (by simp [hxj])
                obtain ⟨xb0, xb1⟩ := HX.out x (List.mem_of_getElem? hxj)
                obtain ⟨a, ha1, ha2⟩ := upto_lt (((k : Nat) : Int) + 1) ats j (by rw [HUU.out]; exact hjU)
                have hax : x % 10 = a := by have := HA1.out.2.2 j x hxj; rw [ha1] at this; simpa using this.symm
                have g1 : decide (x % 10 + 3 ≤ ((k : Nat) : Int) + 1) = true := by simp; omega
                clear hat hxj ha1 ha2 hax
                go_wp2_with fail
                exact ⟨⟨j + 1, by go_num, by omega, trivial⟩, by simp [intOf]; omega⟩
              · have hUj : U = j := by omega
                subst hUj
                by_cases hjl : U < xs.length
                · obtain ⟨b9, e9, _, hat⟩ := (HR0.out.fr HH4.out.fr (fun _ _ _ (x : nob _) => x)).at (by omega)
                  subst e9
                  obtain ⟨x, hxj⟩ : ∃ x, xs[U]? = some x := ⟨_, List.getElem?_eq_getElem hjl⟩
                  have y1 := hat U (.int .u8 x) (by simp [hxj])
                  obtain ⟨xb0, xb1⟩ := HX.out x (List.mem_of_getElem? hxj)
                  obtain ⟨a, ha1, ha2⟩ := upto_stop (((k : Nat) : Int) + 1) ats (by rw [HUU.out]; have := HA1.out.1; omega)
                  rw [HUU.out] at ha1
                  have hax : x % 10 = a := by have := HA1.out.2.2 U x hxj; rw [ha1] at this; simpa using this.symm
                  have g1 : decide (x % 10 + 3 ≤ ((k : Nat) : Int) + 1) = false := by simp; omega
                  clear hat hxj ha1 ha2 hax
                  obtain ⟨v0, v1, v2, v3, v4, v5⟩ := wdL_cells HH4.out
                  have CU := Lib.hid (Used_h HH4.out 1 rfl)
                  have CL := Lib.hid (Limbo_h HH4.out 3 rfl (by
                    show waits [goneL U (ats.drop U), []] ≤ 1000000000
                    have := goneL_len (ats.drop U) U
                    have := HA1.out.1
                    simp [waits, goneL_len]; omega))
                  have hwt : waits [goneL U (ats.drop U), []] = xs.length - U := by
                    have := HA1.out.1
                    simp [waits, goneL_len]; omega
                  have HWT := Lib.hid hwt
                  have HHR := Lib.hid HH4.out
                  clear hwt
                  go_wp2_with fail
                  refine (CU.out.mono (R' := fun e w' => e = .returned (.int .i64 (2 + ((xs.length - U : Nat) : Int))) ∧ w' = wr) (fun e w' h => h)).mono ?_
                  rintro e w' ⟨rfl, hw⟩
                  have hw := hw.symm
                  subst hw
                  have e1 : (2 : Int) + ((xs.length - U : Nat) : Int) = 2 + (xs.length : Int) - (U : Int) := by omega
                  have e2 : ((xs.length - U : Nat) : Int) = (xs.length : Int) - (U : Int) := by omega
                  rw [e1]
                  clear CU e1
                  go_wp2_with fail
                  refine (CL.out.mono (R' := fun e w' => e = .returned (.int .i64 ((xs.length : Int) - (U : Int))) ∧ w' = wr) (fun e w' h => ⟨by rw [h.1, ← e2, ← HWT.out]; rfl, h.2⟩)).mono ?_
                  rintro e w' ⟨rfl, hw⟩
                  have hw := hw.symm
                  subst hw
                  clear CL e2 v0 v1 v2 v3 v4 v5
                  go_wp2_with fail
                  go_loopw [150] (fun i wr => ∃ j : Nat, i = .int .i64 (j : Nat) ∧ j ≤ xs.length ∧ Hid (Heap w wr (wdL c ⟨frS 40 xs.length (max U j) ((min U j : Nat) : Int), ⟨[], 20⟩, ⟨((k : Nat) : Int) + 1, [((k : Nat) : Int), -1], [goneL U (ats.drop U), []]⟩⟩ ++ [rowP 29 1 (.slice ta xs.length tc) xs.length (toldV xs.length)]))) (fun i _ => xs.length - (intOf i).toNat)
                  case atStart => exact ⟨0, rfl, Nat.zero_le _, Lib.hid (by rw [show max U 0 = U from by omega, show min U 0 = 0 from by omega]; exact HHR.out)⟩
                  case round =>
                    obtain ⟨j, rfl, hj, HJ⟩ := hrel
                    by_cases hjl : j < xs.length
                    · obtain ⟨v0, v1, v2, v3, v4, v5⟩ := wdL_cells HJ.out
                      obtain ⟨g9, ee, hcc, hat⟩ := (HJ.out.row 4 (t := 29) (sz := 1) (n := xs.length) (v := .slice ta xs.length tc) (us := toldV xs.length) rfl).rdv.at (by omega)
                      subst ee
                      have y1 := hat j _ (toldV_get hjl)
                      have CF := Free_h HJ.out 1 rfl ((frS_ok (k := xs.length) (j := max U j) (f := ((min U j : Nat) : Int)) (by omega) (by omega) (by omega) (Nat.le_refl 60)).ok (by omega)) (by show ((List.range (max U j)).map (· + 2)).length ≤ 100000; simp; omega) (told j)
                      by_cases hjU : j < U
                      · have hfr : freeAr (told j) (frS 40 xs.length (max U j) ((min U j : Nat) : Int)) = (false, frS 40 xs.length (max U (j + 1)) ((min U (j + 1) : Nat) : Int)) := by
                          rw [frS_gone (by omega) (by omega) (by omega), show max U j = max U (j + 1) from by omega, show ((min U j : Nat) : Int) + 1 = ((min U (j + 1) : Nat) : Int) from by omega]
                        have CC := Lib.hid (CF.mono (R' := fun e w' => e = .returned (.bool false) ∧ Heap w w' (wdL c ⟨frS 40 xs.length (max U (j + 1)) ((min U (j + 1) : Nat) : Int), ⟨[], 20⟩, ⟨((k : Nat) : Int) + 1, [((k : Nat) : Int), -1], [goneL U (ats.drop U), []]⟩⟩ ++ [rowP 29 1 (.slice (some g9) xs.length tc) xs.length (toldV xs.length)])) (fun e w' h => by
                          rw [hfr] at h; exact h))
                        have g1 : decide ((U : Int) ≤ (j : Int)) = false := by simp; omega
                        have g2 : decide (U ≤ j) = false := by simp; omega
                        have g3 : ¬ U ≤ j := by omega
                        have HU := Lib.hid hjU
                        clear CF hfr HJ hat hjU
                        go_wp2_with fail
                        refine CC.out.mono ?_
                        rintro e w5 ⟨rfl, H5⟩
                        have HH5 := Lib.hid H5
                        clear H5 CC v0 v1 v2 v3 v4 v5 y1
                        go_wp2_with fail
                        exact ⟨⟨j + 1, by go_num, by omega, HH5⟩, by simp [intOf]; omega⟩
                      · rcases (by omega : xs.length ≤ U ∨ U < xs.length) with hz | hz
                        · exfalso; omega
                        · have hfr : freeAr (told j) (frS 40 xs.length (max U j) ((min U j : Nat) : Int)) = (true, frS 40 xs.length (max U (j + 1)) ((min U (j + 1) : Nat) : Int)) := by
                            rw [show max U j = j from by omega, frS_free hjl (by omega), show max U (j + 1) = j + 1 from by omega, show min U (j + 1) = min U j from by omega]
                          have CC := Lib.hid (CF.mono (R' := fun e w' => e = .returned (.bool true) ∧ Heap w w' (wdL c ⟨frS 40 xs.length (max U (j + 1)) ((min U (j + 1) : Nat) : Int), ⟨[], 20⟩, ⟨((k : Nat) : Int) + 1, [((k : Nat) : Int), -1], [goneL U (ats.drop U), []]⟩⟩ ++ [rowP 29 1 (.slice (some g9) xs.length tc) xs.length (toldV xs.length)])) (fun e w' h => by
                            rw [hfr] at h; exact h))
                          have g1 : decide ((U : Int) ≤ (j : Int)) = true := by simp; omega
                          have g2 : decide (U ≤ j) = true := by simp; omega
                          have g3 : U ≤ j := by omega
                          have HU := Lib.hid hjU
                          clear CF hfr HJ hat hjU
                          go_wp2_with fail
                          refine CC.out.mono ?_
                          rintro e w5 ⟨rfl, H5⟩
                          have HH5 := Lib.hid H5
                          clear H5 CC v0 v1 v2 v3 v4 v5 y1
                          go_wp2_with fail
                          exact ⟨⟨j + 1, by go_num, by omega, HH5⟩, by simp [intOf]; omega⟩
                    · go_wp2_with fail
                      go_ret
                      exact ⟨rfl, HJ.out.below⟩
                · have hjl' : decide ((U : Int) < (xs.length : Int)) = false := by simp; omega
                  obtain ⟨v0, v1, v2, v3, v4, v5⟩ := wdL_cells HH4.out
                  have CU := Lib.hid (Used_h HH4.out 1 rfl)
                  have CL := Lib.hid (Limbo_h HH4.out 3 rfl (by
                    show waits [goneL U (ats.drop U), []] ≤ 1000000000
                    have := goneL_len (ats.drop U) U
                    have := HA1.out.1
                    simp [waits, goneL_len]; omega))
                  have hwt : waits [goneL U (ats.drop U), []] = xs.length - U := by
                    have := HA1.out.1
                    simp [waits, goneL_len]; omega
                  have HWT := Lib.hid hwt
                  have HHR := Lib.hid HH4.out
                  clear hwt
                  go_wp2_with fail
                  refine (CU.out.mono (R' := fun e w' => e = .returned (.int .i64 (2 + ((xs.length - U : Nat) : Int))) ∧ w' = wr) (fun e w' h => h)).mono ?_
                  rintro e w' ⟨rfl, hw⟩
                  have hw := hw.symm
                  subst hw
                  have e1 : (2 : Int) + ((xs.length - U : Nat) : Int) = 2 + (xs.length : Int) - (U : Int) := by omega
                  have e2 : ((xs.length - U : Nat) : Int) = (xs.length : Int) - (U : Int) := by omega
                  rw [e1]
                  clear CU e1
                  go_wp2_with fail
                  refine (CL.out.mono (R' := fun e w' => e = .returned (.int .i64 ((xs.length : Int) - (U : Int))) ∧ w' = wr) (fun e w' h => ⟨by rw [h.1, ← e2, ← HWT.out]; rfl, h.2⟩)).mono ?_
                  rintro e w' ⟨rfl, hw⟩
                  have hw := hw.symm
                  subst hw
                  clear CL e2 v0 v1 v2 v3 v4 v5
                  go_wp2_with fail
                  clear hjl hjl'
                  go_loopw [150] (fun i wr => ∃ j : Nat, i = .int .i64 (j : Nat) ∧ j ≤ xs.length ∧ Hid (Heap w wr (wdL c ⟨frS 40 xs.length (max U j) ((min U j : Nat) : Int), ⟨[], 20⟩, ⟨((k : Nat) : Int) + 1, [((k : Nat) : Int), -1], [goneL U (ats.drop U), []]⟩⟩ ++ [rowP 29 1 (.slice ta xs.length tc) xs.length (toldV xs.length)]))) (fun i _ => xs.length - (intOf i).toNat)
                  case atStart => exact ⟨0, rfl, Nat.zero_le _, Lib.hid (by rw [show max U 0 = U from by omega, show min U 0 = 0 from by omega]; exact HHR.out)⟩
                  case round =>
                    obtain ⟨j, rfl, hj, HJ⟩ := hrel
                    by_cases hjl : j < xs.length
                    · obtain ⟨v0, v1, v2, v3, v4, v5⟩ := wdL_cells HJ.out
                      obtain ⟨g9, ee, hcc, hat⟩ := (HJ.out.row 4 (t := 29) (sz := 1) (n := xs.length) (v := .slice ta xs.length tc) (us := toldV xs.length) rfl).rdv.at (by omega)
                      subst ee
                      have y1 := hat j _ (toldV_get hjl)
                      have CF := Free_h HJ.out 1 rfl ((frS_ok (k := xs.length) (j := max U j) (f := ((min U j : Nat) : Int)) (by omega) (by omega) (by omega) (Nat.le_refl 60)).ok (by omega)) (by show ((List.range (max U j)).map (· + 2)).length ≤ 100000; simp; omega) (told j)
                      by_cases hjU : j < U
                      · have hfr : freeAr (told j) (frS 40 xs.length (max U j) ((min U j : Nat) : Int)) = (false, frS 40 xs.length (max U (j + 1)) ((min U (j + 1) : Nat) : Int)) := by
                          rw [frS_gone (by omega) (by omega) (by omega), show max U j = max U (j + 1) from by omega, show ((min U j : Nat) : Int) + 1 = ((min U (j + 1) : Nat) : Int) from by omega]
                        have CC := Lib.hid (CF.mono (R' := fun e w' => e = .returned (.bool false) ∧ Heap w w' (wdL c ⟨frS 40 xs.length (max U (j + 1)) ((min U (j + 1) : Nat) : Int), ⟨[], 20⟩, ⟨((k : Nat) : Int) + 1, [((k : Nat) : Int), -1], [goneL U (ats.drop U), []]⟩⟩ ++ [rowP 29 1 (.slice (some g9) xs.length tc) xs.length (toldV xs.length)])) (fun e w' h => by
                          rw [hfr] at h; exact h))
                        have g1 : decide ((U : Int) ≤ (j : Int)) = false := by simp; omega
                        have g2 : decide (U ≤ j) = false := by simp; omega
                        have g3 : ¬ U ≤ j := by omega
                        have HU := Lib.hid hjU
                        clear CF hfr HJ hat hjU
                        go_wp2_with fail
                        refine CC.out.mono ?_
                        rintro e w5 ⟨rfl, H5⟩
                        have HH5 := Lib.hid H5
                        clear H5 CC v0 v1 v2 v3 v4 v5 y1
                        go_wp2_with fail
                        exact ⟨⟨j + 1, by go_num, by omega, HH5⟩, by simp [intOf]; omega⟩
                      · rcases (by omega : xs.length ≤ U ∨ U < xs.length) with hz | hz
                        · exfalso; omega
                        · have hfr : freeAr (told j) (frS 40 xs.length (max U j) ((min U j : Nat) : Int)) = (true, frS 40 xs.length (max U (j + 1)) ((min U (j + 1) : Nat) : Int)) := by
                            rw [show max U j = j from by omega, frS_free hjl (by omega), show max U (j + 1) = j + 1 from by omega, show min U (j + 1) = min U j from by omega]
                          have CC := Lib.hid (CF.mono (R' := fun e w' => e = .returned (.bool true) ∧ Heap w w' (wdL c ⟨frS 40 xs.length (max U (j + 1)) ((min U (j + 1) : Nat) : Int), ⟨[], 20⟩, ⟨((k : Nat) : Int) + 1, [((k : Nat) : Int), -1], [goneL U (ats.drop U), []]⟩⟩ ++ [rowP 29 1 (.slice (some g9) xs.length tc) xs.length (toldV xs.length)])) (fun e w' h => by
                            rw [hfr] at h; exact h))
                          have g1 : decide ((U : Int) ≤ (j : Int)) = true := by simp; omega
                          have g2 : decide (U ≤ j) = true := by simp; omega
                          have g3 : U ≤ j := by omega
                          have HU := Lib.hid hjU
                          clear CF hfr HJ hat hjU
                          go_wp2_with fail
                          refine CC.out.mono ?_
                          rintro e w5 ⟨rfl, H5⟩
                          have HH5 := Lib.hid H5
                          clear H5 CC v0 v1 v2 v3 v4 v5 y1
                          go_wp2_with fail
                          exact ⟨⟨j + 1, by go_num, by omega, HH5⟩, by simp [intOf]; omega⟩
                    · go_wp2_with fail
                      go_ret
                      exact ⟨rfl, HJ.out.below⟩
          · rcases (by omega : k = 0 ∨ 1 ≤ k) with hk0 | hk1
            · subst hk0
              obtain ⟨v0, v1, v2, v3, v4, v5⟩ := wdL_cells HH.out
              have C := Say_h HH.out 3 rfl 1 (-1)
              have C := Lib.hid (C.mono (R' := fun e w' => e = .returned (.tuple #[]) ∧ Heap w w' (wdL c (frW xs.length 0 0 (0 : Int) [-1, -1] (goneL 0 ats)) ++ [rowP 29 1 (.slice ta xs.length tc) xs.length (toldV xs.length)])) (fun e w' h => h))
              clear HH
              go_wp2_with fail
              refine C.out.mono ?_
              rintro e w3 ⟨rfl, H3⟩
              have HS := Lib.hid H3
              clear H3 C v0 v1 v2 v3 v4 v5
              obtain ⟨l, r1, r2, r3⟩ := runs_frees (m := xs.length) (n := (0 : Int)) (sd1 := -1) (ats := ats) HA1.out.1 (by omega) (by omega) (by omega) ((1 : Int)) (by simp <;> omega)
              have hUl := upto_le ((1 : Int)) ats
              generalize hU : upto ((1 : Int)) ats = U at *
              have hU20 : U ≤ xs.length := by have := HA1.out.1; omega
              have hl : l.length = 6 + U + 1 := by rw [r2]; first | rfl | (rw [if_neg (by omega)])
              have CS := Lib.hid (Start_alone (me := 0) (f := 32) (first := #[]) (cap := #[]) (p := begsP 0 2) (H := HB 2) HS.out (fun M b tb hM => wfr_does (me := (0 : Nat)) (wdPl_is c _ _ tb) hM) wfr_enters (frW_ok (f := 0) (now := (0 : Int)) (sd := [-1, -1]) (i := 0) (k := xs.length) (j := 0) (N := 60) (Nat.zero_le _) (by omega) (by omega) (Nat.le_refl _) (by omega) rfl HA1.out.2.1 (by have := HA1.out.1; omega)) (by omega) (ev0_is _) r1 (by omega) (by simp) (HB_all r3 rfl))
              have hmx : max l.length 1 = 6 + U + 1 := by omega
              rw [hmx] at CS
              have HUU := Lib.hid hU
              clear r1 r2 r3 hl hmx hUl hU HS
              go_wp2_with fail
              refine CS.out.mono ?_
              rintro e w3 ⟨tb, rfl, CA⟩
              clear CS
              go_wp2_with fail
              refine CA.out.mono ?_
              rintro e w4 ⟨a2, cp2, rfl, H4, ok4, _⟩
              clear CA ok4
              have H4 : Heap w w4 ((wdL c (frW xs.length U 0 ((1 : Int)) [(0 : Int), -1] (goneL U (ats.drop U))) ++ [rowP 29 1 (.slice ta xs.length tc) xs.length (toldV xs.length)]) ++ [rowP 2 1 (.slice a2 0 cp2) 0 []]) := by rw [List.append_assoc]; exact H4
              have HH4 := Lib.hid H4.first
              clear H4
              go_wp2_with fail
              go_loopw [19] (fun f wr => ∃ j : Nat, f = .int .i64 (j : Nat) ∧ j ≤ U ∧ wr = w4) (fun i _ => xs.length - (intOf i).toNat)
              case atStart => exact ⟨0, rfl, Nat.zero_le _, rfl⟩
              case round =>
                obtain ⟨j, rfl, hj, rfl⟩ := hrel
                by_cases hjU : j < U
                · obtain ⟨b9, e9, _, hat⟩ := (HR0.out.fr HH4.out.fr (fun _ _ _ (x : nob _) => x)).at (by omega)
                  subst e9
                  obtain ⟨x, hxj⟩ : ∃ x, xs[j]? = some x := ⟨_, List.getElem?_eq_getElem (by omega)⟩
                  have y1 := hat j (.int .u8 x) (by simp [hxj])
                  obtain ⟨xb0, xb1⟩ := HX.out x (List.mem_of_getElem? hxj)
                  obtain ⟨a, ha1, ha2⟩ := upto_lt ((1 : Int)) ats j (by rw [HUU.out]; exact hjU)
                  have hax : x % 10 = a := by have := HA1.out.2.2 j x hxj; rw [ha1] at this; simpa using this.symm
                  have g1 : decide (x % 10 + 3 ≤ (1 : Int)) = true := by simp; omega
                  clear hat hxj ha1 ha2 hax
                  go_wp2_with fail
                  exact ⟨⟨j + 1, by go_num, by omega, trivial⟩, by simp [intOf]; omega⟩
                · have hUj : U = j := by omega
                  subst hUj
                  by_cases hjl : U < xs.length
                  · obtain ⟨b9, e9, _, hat⟩ := (HR0.out.fr HH4.out.fr (fun _ _ _ (x : nob _) => x)).at (by omega)
                    subst e9
                    obtain ⟨x, hxj⟩ : ∃ x, xs[U]? = some x := ⟨_, List.getElem?_eq_getElem hjl⟩
                    have y1 := hat U (.int .u8 x) (by simp [hxj])
                    obtain ⟨xb0, xb1⟩ := HX.out x (List.mem_of_getElem? hxj)
                    obtain ⟨a, ha1, ha2⟩ := upto_stop ((1 : Int)) ats (by rw [HUU.out]; have := HA1.out.1; omega)
                    rw [HUU.out] at ha1
                    have hax : x % 10 = a := by have := HA1.out.2.2 U x hxj; rw [ha1] at this; simpa using this.symm
                    have g1 : decide (x % 10 + 3 ≤ (1 : Int)) = false := by simp; omega
                    clear hat hxj ha1 ha2 hax
                    obtain ⟨v0, v1, v2, v3, v4, v5⟩ := wdL_cells HH4.out
                    have CU := Lib.hid (Used_h HH4.out 1 rfl)
                    have CL := Lib.hid (Limbo_h HH4.out 3 rfl (by
                      show waits [goneL U (ats.drop U), []] ≤ 1000000000
                      have := goneL_len (ats.drop U) U
                      have := HA1.out.1
                      simp [waits, goneL_len]; omega))
                    have hwt : waits [goneL U (ats.drop U), []] = xs.length - U := by
                      have := HA1.out.1
                      simp [waits, goneL_len]; omega
                    have HWT := Lib.hid hwt
                    have HHR := Lib.hid HH4.out
                    clear hwt
                    go_wp2_with fail
                    refine (CU.out.mono (R' := fun e w' => e = .returned (.int .i64 (2 + ((xs.length - U : Nat) : Int))) ∧ w' = wr) (fun e w' h => h)).mono ?_
                    rintro e w' ⟨rfl, hw⟩
                    have hw := hw.symm
                    subst hw
                    have e1 : (2 : Int) + ((xs.length - U : Nat) : Int) = 2 + (xs.length : Int) - (U : Int) := by omega
                    have e2 : ((xs.length - U : Nat) : Int) = (xs.length : Int) - (U : Int) := by omega
                    rw [e1]
                    clear CU e1
                    go_wp2_with fail
                    refine (CL.out.mono (R' := fun e w' => e = .returned (.int .i64 ((xs.length : Int) - (U : Int))) ∧ w' = wr) (fun e w' h => ⟨by rw [h.1, ← e2, ← HWT.out]; rfl, h.2⟩)).mono ?_
                    rintro e w' ⟨rfl, hw⟩
                    have hw := hw.symm
                    subst hw
                    clear CL e2 v0 v1 v2 v3 v4 v5
                    go_wp2_with fail
                    go_loopw [150] (fun i wr => ∃ j : Nat, i = .int .i64 (j : Nat) ∧ j ≤ xs.length ∧ Hid (Heap w wr (wdL c ⟨frS 40 xs.length (max U j) ((min U j : Nat) : Int), ⟨[], 20⟩, ⟨(1 : Int), [(0 : Int), -1], [goneL U (ats.drop U), []]⟩⟩ ++ [rowP 29 1 (.slice ta xs.length tc) xs.length (toldV xs.length)]))) (fun i _ => xs.length - (intOf i).toNat)
                    case atStart => exact ⟨0, rfl, Nat.zero_le _, Lib.hid (by rw [show max U 0 = U from by omega, show min U 0 = 0 from by omega]; exact HHR.out)⟩
                    case round =>
                      obtain ⟨j, rfl, hj, HJ⟩ := hrel
                      by_cases hjl : j < xs.length
                      · obtain ⟨v0, v1, v2, v3, v4, v5⟩ := wdL_cells HJ.out
                        obtain ⟨g9, ee, hcc, hat⟩ := (HJ.out.row 4 (t := 29) (sz := 1) (n := xs.length) (v := .slice ta xs.length tc) (us := toldV xs.length) rfl).rdv.at (by omega)
                        subst ee
                        have y1 := hat j _ (toldV_get hjl)
                        have CF := Free_h HJ.out 1 rfl ((frS_ok (k := xs.length) (j := max U j) (f := ((min U j : Nat) : Int)) (by omega) (by omega) (by omega) (Nat.le_refl 60)).ok (by omega)) (by show ((List.range (max U j)).map (· + 2)).length ≤ 100000; simp; omega) (told j)
                        by_cases hjU : j < U
                        · have hfr : freeAr (told j) (frS 40 xs.length (max U j) ((min U j : Nat) : Int)) = (false, frS 40 xs.length (max U (j + 1)) ((min U (j + 1) : Nat) : Int)) := by
                            rw [frS_gone (by omega) (by omega) (by omega), show max U j = max U (j + 1) from by omega, show ((min U j : Nat) : Int) + 1 = ((min U (j + 1) : Nat) : Int) from by omega]
                          have CC := Lib.hid (CF.mono (R' := fun e w' => e = .returned (.bool false) ∧ Heap w w' (wdL c ⟨frS 40 xs.length (max U (j + 1)) ((min U (j + 1) : Nat) : Int), ⟨[], 20⟩, ⟨(1 : Int), [(0 : Int), -1], [goneL U (ats.drop U), []]⟩⟩ ++ [rowP 29 1 (.slice (some g9) xs.length tc) xs.length (toldV xs.length)])) (fun e w' h => by
                            rw [hfr] at h; exact h))
                          have g1 : decide ((U : Int) ≤ (j : Int)) = false := by simp; omega
                          have g2 : decide (U ≤ j) = false := by simp; omega
                          have g3 : ¬ U ≤ j := by omega
                          have HU := Lib.hid hjU
                          clear CF hfr HJ hat hjU
                          go_wp2_with fail
                          refine CC.out.mono ?_
                          rintro e w5 ⟨rfl, H5⟩
                          have HH5 := Lib.hid H5
                          clear H5 CC v0 v1 v2 v3 v4 v5 y1
                          go_wp2_with fail
                          exact ⟨⟨j + 1, by go_num, by omega, HH5⟩, by simp [intOf]; omega⟩
                        · rcases (by omega : xs.length ≤ U ∨ U < xs.length) with hz | hz
                          · exfalso; omega
                          · have hfr : freeAr (told j) (frS 40 xs.length (max U j) ((min U j : Nat) : Int)) = (true, frS 40 xs.length (max U (j + 1)) ((min U (j + 1) : Nat) : Int)) := by
                              rw [show max U j = j from by omega, frS_free hjl (by omega), show max U (j + 1) = j + 1 from by omega, show min U (j + 1) = min U j from by omega]
                            have CC := Lib.hid (CF.mono (R' := fun e w' => e = .returned (.bool true) ∧ Heap w w' (wdL c ⟨frS 40 xs.length (max U (j + 1)) ((min U (j + 1) : Nat) : Int), ⟨[], 20⟩, ⟨(1 : Int), [(0 : Int), -1], [goneL U (ats.drop U), []]⟩⟩ ++ [rowP 29 1 (.slice (some g9) xs.length tc) xs.length (toldV xs.length)])) (fun e w' h => by
                              rw [hfr] at h; exact h))
                            have g1 : decide ((U : Int) ≤ (j : Int)) = true := by simp; omega
                            have g2 : decide (U ≤ j) = true := by simp; omega
                            have g3 : U ≤ j := by omega
                            have HU := Lib.hid hjU
                            clear CF hfr HJ hat hjU
                            go_wp2_with fail
                            refine CC.out.mono ?_
                            rintro e w5 ⟨rfl, H5⟩
                            have HH5 := Lib.hid H5
                            clear H5 CC v0 v1 v2 v3 v4 v5 y1
                            go_wp2_with fail
                            exact ⟨⟨j + 1, by go_num, by omega, HH5⟩, by simp [intOf]; omega⟩
                      · go_wp2_with fail
                        go_ret
                        exact ⟨rfl, HJ.out.below⟩
                  · have hjl' : decide ((U : Int) < (xs.length : Int)) = false := by simp; omega
                    obtain ⟨v0, v1, v2, v3, v4, v5⟩ := wdL_cells HH4.out
                    have CU := Lib.hid (Used_h HH4.out 1 rfl)
                    have CL := Lib.hid (Limbo_h HH4.out 3 rfl (by
                      show waits [goneL U (ats.drop U), []] ≤ 1000000000
                      have := goneL_len (ats.drop U) U
                      have := HA1.out.1
                      simp [waits, goneL_len]; omega))
                    have hwt : waits [goneL U (ats.drop U), []] = xs.length - U := by
                      have := HA1.out.1
                      simp [waits, goneL_len]; omega
                    have HWT := Lib.hid hwt
                    have HHR := Lib.hid HH4.out
                    clear hwt
                    go_wp2_with fail
                    refine (CU.out.mono (R' := fun e w' => e = .returned (.int .i64 (2 + ((xs.length - U : Nat) : Int))) ∧ w' = wr) (fun e w' h => h)).mono ?_
                    rintro e w' ⟨rfl, hw⟩
                    have hw := hw.symm
                    subst hw
                    have e1 : (2 : Int) + ((xs.length - U : Nat) : Int) = 2 + (xs.length : Int) - (U : Int) := by omega
                    have e2 : ((xs.length - U : Nat) : Int) = (xs.length : Int) - (U : Int) := by omega
                    rw [e1]
                    clear CU e1
                    go_wp2_with fail
                    refine (CL.out.mono (R' := fun e w' => e = .returned (.int .i64 ((xs.length : Int) - (U : Int))) ∧ w' = wr) (fun e w' h => ⟨by rw [h.1, ← e2, ← HWT.out]; rfl, h.2⟩)).mono ?_
                    rintro e w' ⟨rfl, hw⟩
                    have hw := hw.symm
                    subst hw
                    clear CL e2 v0 v1 v2 v3 v4 v5
                    go_wp2_with fail
                    clear hjl hjl'
                    go_loopw [150] (fun i wr => ∃ j : Nat, i = .int .i64 (j : Nat) ∧ j ≤ xs.length ∧ Hid (Heap w wr (wdL c ⟨frS 40 xs.length (max U j) ((min U j : Nat) : Int), ⟨[], 20⟩, ⟨(1 : Int), [(0 : Int), -1], [goneL U (ats.drop U), []]⟩⟩ ++ [rowP 29 1 (.slice ta xs.length tc) xs.length (toldV xs.length)]))) (fun i _ => xs.length - (intOf i).toNat)
                    case atStart => exact ⟨0, rfl, Nat.zero_le _, Lib.hid (by rw [show max U 0 = U from by omega, show min U 0 = 0 from by omega]; exact HHR.out)⟩
                    case round =>
                      obtain ⟨j, rfl, hj, HJ⟩ := hrel
                      by_cases hjl : j < xs.length
                      · obtain ⟨v0, v1, v2, v3, v4, v5⟩ := wdL_cells HJ.out
                        obtain ⟨g9, ee, hcc, hat⟩ := (HJ.out.row 4 (t := 29) (sz := 1) (n := xs.length) (v := .slice ta xs.length tc) (us := toldV xs.length) rfl).rdv.at (by omega)
                        subst ee
                        have y1 := hat j _ (toldV_get hjl)
                        have CF := Free_h HJ.out 1 rfl ((frS_ok (k := xs.length) (j := max U j) (f := ((min U j : Nat) : Int)) (by omega) (by omega) (by omega) (Nat.le_refl 60)).ok (by omega)) (by show ((List.range (max U j)).map (· + 2)).length ≤ 100000; simp; omega) (told j)
                        by_cases hjU : j < U
                        · have hfr : freeAr (told j) (frS 40 xs.length (max U j) ((min U j : Nat) : Int)) = (false, frS 40 xs.length (max U (j + 1)) ((min U (j + 1) : Nat) : Int)) := by
                            rw [frS_gone (by omega) (by omega) (by omega), show max U j = max U (j + 1) from by omega, show ((min U j : Nat) : Int) + 1 = ((min U (j + 1) : Nat) : Int) from by omega]
                          have CC := Lib.hid (CF.mono (R' := fun e w' => e = .returned (.bool false) ∧ Heap w w' (wdL c ⟨frS 40 xs.length (max U (j + 1)) ((min U (j + 1) : Nat) : Int), ⟨[], 20⟩, ⟨(1 : Int), [(0 : Int), -1], [goneL U (ats.drop U), []]⟩⟩ ++ [rowP 29 1 (.slice (some g9) xs.length tc) xs.length (toldV xs.length)])) (fun e w' h => by
                            rw [hfr] at h; exact h))
                          have g1 : decide ((U : Int) ≤ (j : Int)) = false := by simp; omega
                          have g2 : decide (U ≤ j) = false := by simp; omega
                          have g3 : ¬ U ≤ j := by omega
                          have HU := Lib.hid hjU
                          clear CF hfr HJ hat hjU
                          go_wp2_with fail
                          refine CC.out.mono ?_
                          rintro e w5 ⟨rfl, H5⟩
                          have HH5 := Lib.hid H5
                          clear H5 CC v0 v1 v2 v3 v4 v5 y1
                          go_wp2_with fail
                          exact ⟨⟨j + 1, by go_num, by omega, HH5⟩, by simp [intOf]; omega⟩
                        · rcases (by omega : xs.length ≤ U ∨ U < xs.length) with hz | hz
                          · exfalso; omega
                          · have hfr : freeAr (told j) (frS 40 xs.length (max U j) ((min U j : Nat) : Int)) = (true, frS 40 xs.length (max U (j + 1)) ((min U (j + 1) : Nat) : Int)) := by
                              rw [show max U j = j from by omega, frS_free hjl (by omega), show max U (j + 1) = j + 1 from by omega, show min U (j + 1) = min U j from by omega]
                            have CC := Lib.hid (CF.mono (R' := fun e w' => e = .returned (.bool true) ∧ Heap w w' (wdL c ⟨frS 40 xs.length (max U (j + 1)) ((min U (j + 1) : Nat) : Int), ⟨[], 20⟩, ⟨(1 : Int), [(0 : Int), -1], [goneL U (ats.drop U), []]⟩⟩ ++ [rowP 29 1 (.slice (some g9) xs.length tc) xs.length (toldV xs.length)])) (fun e w' h => by
                              rw [hfr] at h; exact h))
                            have g1 : decide ((U : Int) ≤ (j : Int)) = true := by simp; omega
                            have g2 : decide (U ≤ j) = true := by simp; omega
                            have g3 : U ≤ j := by omega
                            have HU := Lib.hid hjU
                            clear CF hfr HJ hat hjU
                            go_wp2_with fail
                            refine CC.out.mono ?_
                            rintro e w5 ⟨rfl, H5⟩
                            have HH5 := Lib.hid H5
                            clear H5 CC v0 v1 v2 v3 v4 v5 y1
                            go_wp2_with fail
                            exact ⟨⟨j + 1, by go_num, by omega, HH5⟩, by simp [intOf]; omega⟩
                      · go_wp2_with fail
                        go_ret
                        exact ⟨rfl, HJ.out.below⟩
            · have hkne : ((k : Int) == 0) = false := by simp; omega
              have hkn2 : ¬ (k : Int) - 1 = -1 := by omega
              obtain ⟨v0, v1, v2, v3, v4, v5⟩ := wdL_cells HH.out
              have C := Say_h HH.out 3 rfl 1 (((k : Nat) : Int) - 1)
              have C := Lib.hid (C.mono (R' := fun e w' => e = .returned (.tuple #[]) ∧ Heap w w' (wdL c (frW xs.length 0 0 ((k : Nat) : Int) [-1, ((k : Nat) : Int) - 1] (goneL 0 ats)) ++ [rowP 29 1 (.slice ta xs.length tc) xs.length (toldV xs.length)])) (fun e w' h => h))
              clear HH
              go_wp2_with fail
              refine C.out.mono ?_
              rintro e w3 ⟨rfl, H3⟩
              have HS := Lib.hid H3
              clear H3 C v0 v1 v2 v3 v4 v5
              obtain ⟨l, r1, r2, r3⟩ := runs_frees (m := xs.length) (n := ((k : Nat) : Int)) (sd1 := ((k : Nat) : Int) - 1) (ats := ats) HA1.out.1 (by omega) (by omega) (by omega) (((k : Nat) : Int)) (by simp <;> omega)
              have hUl := upto_le (((k : Nat) : Int)) ats
              generalize hU : upto (((k : Nat) : Int)) ats = U at *
              have hU20 : U ≤ xs.length := by have := HA1.out.1; omega
              have hl : l.length = 5 + U + 1 := by rw [r2]; first | rfl | (rw [if_neg (by omega)])
              have CS := Lib.hid (Start_alone (me := 0) (f := 32) (first := #[]) (cap := #[]) (p := begsP 0 2) (H := HB 2) HS.out (fun M b tb hM => wfr_does (me := (0 : Nat)) (wdPl_is c _ _ tb) hM) wfr_enters (frW_ok (f := 0) (now := ((k : Nat) : Int)) (sd := [-1, ((k : Nat) : Int) - 1]) (i := 0) (k := xs.length) (j := 0) (N := 60) (Nat.zero_le _) (by omega) (by omega) (Nat.le_refl _) (by omega) rfl HA1.out.2.1 (by have := HA1.out.1; omega)) (by omega) (ev0_is _) r1 (by omega) (by simp) (HB_all r3 rfl))
              have hmx : max l.length 1 = 5 + U + 1 := by omega
              rw [hmx] at CS
              have HUU := Lib.hid hU
              clear r1 r2 r3 hl hmx hUl hU HS
              go_wp2_with fail
              refine CS.out.mono ?_
              rintro e w3 ⟨tb, rfl, CA⟩
              clear CS
              go_wp2_with fail
              refine CA.out.mono ?_
              rintro e w4 ⟨a2, cp2, rfl, H4, ok4, _⟩
              clear CA ok4
              have H4 : Heap w w4 ((wdL c (frW xs.length U 0 (((k : Nat) : Int)) [((k : Nat) : Int), ((k : Nat) : Int) - 1] (goneL U (ats.drop U))) ++ [rowP 29 1 (.slice ta xs.length tc) xs.length (toldV xs.length)]) ++ [rowP 2 1 (.slice a2 0 cp2) 0 []]) := by rw [List.append_assoc]; exact H4
              have HH4 := Lib.hid H4.first
              clear H4
              go_wp2_with fail
              go_loopw [19] (fun f wr => ∃ j : Nat, f = .int .i64 (j : Nat) ∧ j ≤ U ∧ wr = w4) (fun i _ => xs.length - (intOf i).toNat)
              case atStart => exact ⟨0, rfl, Nat.zero_le _, rfl⟩
              case round =>
                obtain ⟨j, rfl, hj, rfl⟩ := hrel
                by_cases hjU : j < U
                · obtain ⟨b9, e9, _, hat⟩ := (HR0.out.fr HH4.out.fr (fun _ _ _ (x : nob _) => x)).at (by omega)
                  subst e9
                  obtain ⟨x, hxj⟩ : ∃ x, xs[j]? = some x := ⟨_, List.getElem?_eq_getElem (by omega)⟩
                  have y1 := hat j (.int .u8 x) (by simp [hxj])
                  obtain ⟨xb0, xb1⟩ := HX.out x (List.mem_of_getElem? hxj)
                  obtain ⟨a, ha1, ha2⟩ := upto_lt (((k : Nat) : Int)) ats j (by rw [HUU.out]; exact hjU)
                  have hax : x % 10 = a := by have := HA1.out.2.2 j x hxj; rw [ha1] at this; simpa using this.symm
                  have g1 : decide (x % 10 + 3 ≤ ((k : Nat) : Int)) = true := by simp; omega
                  clear hat hxj ha1 ha2 hax
                  go_wp2_with fail
                  exact ⟨⟨j + 1, by go_num, by omega, trivial⟩, by simp [intOf]; omega⟩
                · have hUj : U = j := by omega
                  subst hUj
                  by_cases hjl : U < xs.length
                  · obtain ⟨b9, e9, _, hat⟩ := (HR0.out.fr HH4.out.fr (fun _ _ _ (x : nob _) => x)).at (by omega)
                    subst e9
                    obtain ⟨x, hxj⟩ : ∃ x, xs[U]? = some x := ⟨_, List.getElem?_eq_getElem hjl⟩
                    have y1 := hat U (.int .u8 x) (by simp [hxj])
                    obtain ⟨xb0, xb1⟩ := HX.out x (List.mem_of_getElem? hxj)
                    obtain ⟨a, ha1, ha2⟩ := upto_stop (((k : Nat) : Int)) ats (by rw [HUU.out]; have := HA1.out.1; omega)
                    rw [HUU.out] at ha1
                    have hax : x % 10 = a := by have := HA1.out.2.2 U x hxj; rw [ha1] at this; simpa using this.symm
                    have g1 : decide (x % 10 + 3 ≤ ((k : Nat) : Int)) = false := by simp; omega
                    clear hat hxj ha1 ha2 hax
                    obtain ⟨v0, v1, v2, v3, v4, v5⟩ := wdL_cells HH4.out
                    have CU := Lib.hid (Used_h HH4.out 1 rfl)
                    have CL := Lib.hid (Limbo_h HH4.out 3 rfl (by
                      show waits [goneL U (ats.drop U), []] ≤ 1000000000
                      have := goneL_len (ats.drop U) U
                      have := HA1.out.1
                      simp [waits, goneL_len]; omega))
                    have hwt : waits [goneL U (ats.drop U), []] = xs.length - U := by
                      have := HA1.out.1
                      simp [waits, goneL_len]; omega
                    have HWT := Lib.hid hwt
                    have HHR := Lib.hid HH4.out
                    clear hwt
                    go_wp2_with fail
                    refine (CU.out.mono (R' := fun e w' => e = .returned (.int .i64 (2 + ((xs.length - U : Nat) : Int))) ∧ w' = wr) (fun e w' h => h)).mono ?_
                    rintro e w' ⟨rfl, hw⟩
                    have hw := hw.symm
                    subst hw
                    have e1 : (2 : Int) + ((xs.length - U : Nat) : Int) = 2 + (xs.length : Int) - (U : Int) := by omega
                    have e2 : ((xs.length - U : Nat) : Int) = (xs.length : Int) - (U : Int) := by omega
                    rw [e1]
                    clear CU e1
                    go_wp2_with fail
                    refine (CL.out.mono (R' := fun e w' => e = .returned (.int .i64 ((xs.length : Int) - (U : Int))) ∧ w' = wr) (fun e w' h => ⟨by rw [h.1, ← e2, ← HWT.out]; rfl, h.2⟩)).mono ?_
                    rintro e w' ⟨rfl, hw⟩
                    have hw := hw.symm
                    subst hw
                    clear CL e2 v0 v1 v2 v3 v4 v5
                    go_wp2_with fail
                    go_loopw [150] (fun i wr => ∃ j : Nat, i = .int .i64 (j : Nat) ∧ j ≤ xs.length ∧ Hid (Heap w wr (wdL c ⟨frS 40 xs.length (max U j) ((min U j : Nat) : Int), ⟨[], 20⟩, ⟨((k : Nat) : Int), [((k : Nat) : Int), ((k : Nat) : Int) - 1], [goneL U (ats.drop U), []]⟩⟩ ++ [rowP 29 1 (.slice ta xs.length tc) xs.length (toldV xs.length)]))) (fun i _ => xs.length - (intOf i).toNat)
                    case atStart => exact ⟨0, rfl, Nat.zero_le _, Lib.hid (by rw [show max U 0 = U from by omega, show min U 0 = 0 from by omega]; exact HHR.out)⟩
                    case round =>
                      obtain ⟨j, rfl, hj, HJ⟩ := hrel
                      by_cases hjl : j < xs.length
                      · obtain ⟨v0, v1, v2, v3, v4, v5⟩ := wdL_cells HJ.out
                        obtain ⟨g9, ee, hcc, hat⟩ := (HJ.out.row 4 (t := 29) (sz := 1) (n := xs.length) (v := .slice ta xs.length tc) (us := toldV xs.length) rfl).rdv.at (by omega)
                        subst ee
                        have y1 := hat j _ (toldV_get hjl)
                        have CF := Free_h HJ.out 1 rfl ((frS_ok (k := xs.length) (j := max U j) (f := ((min U j : Nat) : Int)) (by omega) (by omega) (by omega) (Nat.le_refl 60)).ok (by omega)) (by show ((List.range (max U j)).map (· + 2)).length ≤ 100000; simp; omega) (told j)
                        by_cases hjU : j < U
                        · have hfr : freeAr (told j) (frS 40 xs.length (max U j) ((min U j : Nat) : Int)) = (false, frS 40 xs.length (max U (j + 1)) ((min U (j + 1) : Nat) : Int)) := by
                            rw [frS_gone (by omega) (by omega) (by omega), show max U j = max U (j + 1) from by omega, show ((min U j : Nat) : Int) + 1 = ((min U (j + 1) : Nat) : Int) from by omega]
                          have CC := Lib.hid (CF.mono (R' := fun e w' => e = .returned (.bool false) ∧ Heap w w' (wdL c ⟨frS 40 xs.length (max U (j + 1)) ((min U (j + 1) : Nat) : Int), ⟨[], 20⟩, ⟨((k : Nat) : Int), [((k : Nat) : Int), ((k : Nat) : Int) - 1], [goneL U (ats.drop U), []]⟩⟩ ++ [rowP 29 1 (.slice (some g9) xs.length tc) xs.length (toldV xs.length)])) (fun e w' h => by
                            rw [hfr] at h; exact h))
                          have g1 : decide ((U : Int) ≤ (j : Int)) = false := by simp; omega
                          have g2 : decide (U ≤ j) = false := by simp; omega
                          have g3 : ¬ U ≤ j := by omega
                          have HU := Lib.hid hjU
                          clear CF hfr HJ hat hjU
                          go_wp2_with fail
                          refine CC.out.mono ?_
                          rintro e w5 ⟨rfl, H5⟩
                          have HH5 := Lib.hid H5
                          clear H5 CC v0 v1 v2 v3 v4 v5 y1
                          go_wp2_with fail
                          exact ⟨⟨j + 1, by go_num, by omega, HH5⟩, by simp [intOf]; omega⟩
                        · rcases (by omega : xs.length ≤ U ∨ U < xs.length) with hz | hz
                          · exfalso; omega
                          · have hfr : freeAr (told j) (frS 40 xs.length (max U j) ((min U j : Nat) : Int)) = (true, frS 40 xs.length (max U (j + 1)) ((min U (j + 1) : Nat) : Int)) := by
                              rw [show max U j = j from by omega, frS_free hjl (by omega), show max U (j + 1) = j + 1 from by omega, show min U (j + 1) = min U j from by omega]
                            have CC := Lib.hid (CF.mono (R' := fun e w' => e = .returned (.bool true) ∧ Heap w w' (wdL c ⟨frS 40 xs.length (max U (j + 1)) ((min U (j + 1) : Nat) : Int), ⟨[], 20⟩, ⟨((k : Nat) : Int), [((k : Nat) : Int), ((k : Nat) : Int) - 1], [goneL U (ats.drop U), []]⟩⟩ ++ [rowP 29 1 (.slice (some g9) xs.length tc) xs.length (toldV xs.length)])) (fun e w' h => by
                              rw [hfr] at h; exact h))
                            have g1 : decide ((U : Int) ≤ (j : Int)) = true := by simp; omega
                            have g2 : decide (U ≤ j) = true := by simp; omega
                            have g3 : U ≤ j := by omega
                            have HU := Lib.hid hjU
                            clear CF hfr HJ hat hjU
                            go_wp2_with fail
                            refine CC.out.mono ?_
                            rintro e w5 ⟨rfl, H5⟩
                            have HH5 := Lib.hid H5
                            clear H5 CC v0 v1 v2 v3 v4 v5 y1
                            go_wp2_with fail
                            exact ⟨⟨j + 1, by go_num, by omega, HH5⟩, by simp [intOf]; omega⟩
                      · go_wp2_with fail
                        go_ret
                        exact ⟨rfl, HJ.out.below⟩
                  · have hjl' : decide ((U : Int) < (xs.length : Int)) = false := by simp; omega
                    obtain ⟨v0, v1, v2, v3, v4, v5⟩ := wdL_cells HH4.out
                    have CU := Lib.hid (Used_h HH4.out 1 rfl)
                    have CL := Lib.hid (Limbo_h HH4.out 3 rfl (by
                      show waits [goneL U (ats.drop U), []] ≤ 1000000000
                      have := goneL_len (ats.drop U) U
                      have := HA1.out.1
                      simp [waits, goneL_len]; omega))
                    have hwt : waits [goneL U (ats.drop U), []] = xs.length - U := by
                      have := HA1.out.1
                      simp [waits, goneL_len]; omega
                    have HWT := Lib.hid hwt
                    have HHR := Lib.hid HH4.out
                    clear hwt
                    go_wp2_with fail
                    refine (CU.out.mono (R' := fun e w' => e = .returned (.int .i64 (2 + ((xs.length - U : Nat) : Int))) ∧ w' = wr) (fun e w' h => h)).mono ?_
                    rintro e w' ⟨rfl, hw⟩
                    have hw := hw.symm
                    subst hw
                    have e1 : (2 : Int) + ((xs.length - U : Nat) : Int) = 2 + (xs.length : Int) - (U : Int) := by omega
                    have e2 : ((xs.length - U : Nat) : Int) = (xs.length : Int) - (U : Int) := by omega
                    rw [e1]
                    clear CU e1
                    go_wp2_with fail
                    refine (CL.out.mono (R' := fun e w' => e = .returned (.int .i64 ((xs.length : Int) - (U : Int))) ∧ w' = wr) (fun e w' h => ⟨by rw [h.1, ← e2, ← HWT.out]; rfl, h.2⟩)).mono ?_
                    rintro e w' ⟨rfl, hw⟩
                    have hw := hw.symm
                    subst hw
                    clear CL e2 v0 v1 v2 v3 v4 v5
                    go_wp2_with fail
                    clear hjl hjl'
                    go_loopw [150] (fun i wr => ∃ j : Nat, i = .int .i64 (j : Nat) ∧ j ≤ xs.length ∧ Hid (Heap w wr (wdL c ⟨frS 40 xs.length (max U j) ((min U j : Nat) : Int), ⟨[], 20⟩, ⟨((k : Nat) : Int), [((k : Nat) : Int), ((k : Nat) : Int) - 1], [goneL U (ats.drop U), []]⟩⟩ ++ [rowP 29 1 (.slice ta xs.length tc) xs.length (toldV xs.length)]))) (fun i _ => xs.length - (intOf i).toNat)
                    case atStart => exact ⟨0, rfl, Nat.zero_le _, Lib.hid (by rw [show max U 0 = U from by omega, show min U 0 = 0 from by omega]; exact HHR.out)⟩
                    case round =>
                      obtain ⟨j, rfl, hj, HJ⟩ := hrel
                      by_cases hjl : j < xs.length
                      · obtain ⟨v0, v1, v2, v3, v4, v5⟩ := wdL_cells HJ.out
                        obtain ⟨g9, ee, hcc, hat⟩ := (HJ.out.row 4 (t := 29) (sz := 1) (n := xs.length) (v := .slice ta xs.length tc) (us := toldV xs.length) rfl).rdv.at (by omega)
                        subst ee
                        have y1 := hat j _ (toldV_get hjl)
                        have CF := Free_h HJ.out 1 rfl ((frS_ok (k := xs.length) (j := max U j) (f := ((min U j : Nat) : Int)) (by omega) (by omega) (by omega) (Nat.le_refl 60)).ok (by omega)) (by show ((List.range (max U j)).map (· + 2)).length ≤ 100000; simp; omega) (told j)
                        by_cases hjU : j < U
                        · have hfr : freeAr (told j) (frS 40 xs.length (max U j) ((min U j : Nat) : Int)) = (false, frS 40 xs.length (max U (j + 1)) ((min U (j + 1) : Nat) : Int)) := by
                            rw [frS_gone (by omega) (by omega) (by omega), show max U j = max U (j + 1) from by omega, show ((min U j : Nat) : Int) + 1 = ((min U (j + 1) : Nat) : Int) from by omega]
                          have CC := Lib.hid (CF.mono (R' := fun e w' => e = .returned (.bool false) ∧ Heap w w' (wdL c ⟨frS 40 xs.length (max U (j + 1)) ((min U (j + 1) : Nat) : Int), ⟨[], 20⟩, ⟨((k : Nat) : Int), [((k : Nat) : Int), ((k : Nat) : Int) - 1], [goneL U (ats.drop U), []]⟩⟩ ++ [rowP 29 1 (.slice (some g9) xs.length tc) xs.length (toldV xs.length)])) (fun e w' h => by
                            rw [hfr] at h; exact h))
                          have g1 : decide ((U : Int) ≤ (j : Int)) = false := by simp; omega
                          have g2 : decide (U ≤ j) = false := by simp; omega
                          have g3 : ¬ U ≤ j := by omega
                          have HU := Lib.hid hjU
                          clear CF hfr HJ hat hjU
                          go_wp2_with fail
                          refine CC.out.mono ?_
                          rintro e w5 ⟨rfl, H5⟩
                          have HH5 := Lib.hid H5
                          clear H5 CC v0 v1 v2 v3 v4 v5 y1
                          go_wp2_with fail
                          exact ⟨⟨j + 1, by go_num, by omega, HH5⟩, by simp [intOf]; omega⟩
                        · rcases (by omega : xs.length ≤ U ∨ U < xs.length) with hz | hz
                          · exfalso; omega
                          · have hfr : freeAr (told j) (frS 40 xs.length (max U j) ((min U j : Nat) : Int)) = (true, frS 40 xs.length (max U (j + 1)) ((min U (j + 1) : Nat) : Int)) := by
                              rw [show max U j = j from by omega, frS_free hjl (by omega), show max U (j + 1) = j + 1 from by omega, show min U (j + 1) = min U j from by omega]
                            have CC := Lib.hid (CF.mono (R' := fun e w' => e = .returned (.bool true) ∧ Heap w w' (wdL c ⟨frS 40 xs.length (max U (j + 1)) ((min U (j + 1) : Nat) : Int), ⟨[], 20⟩, ⟨((k : Nat) : Int), [((k : Nat) : Int), ((k : Nat) : Int) - 1], [goneL U (ats.drop U), []]⟩⟩ ++ [rowP 29 1 (.slice (some g9) xs.length tc) xs.length (toldV xs.length)])) (fun e w' h => by
                              rw [hfr] at h; exact h))
                            have g1 : decide ((U : Int) ≤ (j : Int)) = true := by simp; omega
                            have g2 : decide (U ≤ j) = true := by simp; omega
                            have g3 : U ≤ j := by omega
                            have HU := Lib.hid hjU
                            clear CF hfr HJ hat hjU
                            go_wp2_with fail
                            refine CC.out.mono ?_
                            rintro e w5 ⟨rfl, H5⟩
                            have HH5 := Lib.hid H5
                            clear H5 CC v0 v1 v2 v3 v4 v5 y1
                            go_wp2_with fail
                            exact ⟨⟨j + 1, by go_num, by omega, HH5⟩, by simp [intOf]; omega⟩
                      · go_wp2_with fail
                        go_ret
                        exact ⟨rfl, HJ.out.below⟩
end Go.Proofs.Ythkohomogknddaa
