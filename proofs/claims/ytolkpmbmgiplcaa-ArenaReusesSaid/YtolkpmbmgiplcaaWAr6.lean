/- ArenaReuses: the law's walk. No condition but that the numbers are of their kinds, and that what is handed in can be read. -/
import Derived.Test.YtolkpmbmgiplcaaReuA
import Derived.Test.YtolkpmbmgiplcaaFltA
import Derived.Test.YtolkpmbmgiplcaaWAr2
import Derived.Test.YtolkpmbmgiplcaaOrd
namespace Go.Proofs.Ytolkpmbmgiplcaa
open Go Go.RowKit
set_option linter.unusedVariables false
set_option linter.unusedSimpArgs false
def rl (l : List Nat) : List Int := l.map (fun p => refOf (p : Nat) 1)
theorem rl_len (l : List Nat) : (rl l).length = l.length := by simp [rl]
theorem rl_app (l m : List Nat) : rl (l ++ m) = rl l ++ rl m := by simp [rl]
theorem rl_get {l : List Nat} {i p : Nat} (h : l[i]? = some p) : (rl l)[i]? = some (refOf (p : Nat) 1) := by simp [rl, h]
theorem rl_range (k : Nat) : rl (List.range (k + 1)) = rl (List.range k) ++ [refOf (k : Nat) 1] := by
  rw [List.range_succ, rl_app]; rfl
/-- A row, cut behind its first elements. -/
theorem QRow.cutL {w : World} {t : TypeId} {g off n cap i : Nat} {us : List Value} (h : QRow w t 1 (.slice (some ⟨g, off, none⟩) n cap) n us) (hi : i ≤ n) : RdV w (.slice (some ⟨g, off, none⟩) i cap) i 1 (us.take i) := by
  have r := h.rdv
  obtain ⟨h0, hm, hv⟩ := r
  refine ⟨by simp [h0]; omega, by omega, ?_⟩
  rcases hv with ⟨hv, rfl⟩ | ⟨a, c, hv, h1, h3⟩
  · cases hv
  · simp only [Value.slice.injEq, Option.some.injEq] at hv
    obtain ⟨rfl, _, rfl⟩ := hv
    refine .inr ⟨_, _, rfl, by omega, fun j hj => ?_⟩
    rw [h3 j (by omega), List.getElem?_take]
    rw [if_pos (by omega)]
theorem QRow.cutR {w : World} {t : TypeId} {g off n cap i : Nat} {us : List Value} (h : QRow w t 1 (.slice (some ⟨g, off, none⟩) n cap) n us) (hi : i + 1 ≤ n) :
    ∃ A : Addr, (if cap = i + 1 then some (⟨g, off, none⟩ : Addr) else some ⟨g, off + (i + 1), none⟩) = some A ∧ RdV w (.slice (some A) (n - (i + 1)) (cap - (i + 1))) (n - (i + 1)) 1 (us.drop (i + 1)) := by
  have r := h.rdv
  obtain ⟨h0, hm, hv⟩ := r
  rcases hv with ⟨hv, rfl⟩ | ⟨a, c, hv, h1, h3⟩
  · cases hv
  · simp only [Value.slice.injEq, Option.some.injEq] at hv
    obtain ⟨rfl, _, rfl⟩ := hv
    by_cases hc : cap = i + 1
    · refine ⟨⟨g, off, none⟩, by rw [if_pos hc], by simp [h0], by omega, .inr ⟨_, _, rfl, by omega, fun j hj => by omega⟩⟩
    · refine ⟨⟨g, off + (i + 1), none⟩, by rw [if_neg hc], by simp [h0], by omega, .inr ⟨_, _, rfl, by omega, fun j hj => ?_⟩⟩
      have := h3 (i + 1 + j) (by omega)
      rw [Addr.add_lit] at this ⊢
      rw [List.getElem?_drop, ← this, show off + (i + 1) + j = off + (i + 1 + j) from by omega]
theorem RdV.capLe {w : World} {a : Option Addr} {n c sz : Nat} {us : List Value} (h : RdV w (.slice a n c) n sz us) : n ≤ c := by
  obtain ⟨h0, hm, h⟩ := h
  rcases h with ⟨h, rfl⟩ | ⟨a', c', h, h1, h3⟩
  · omega
  · simp only [Value.slice.injEq] at h
    obtain ⟨_, _, rfl⟩ := h
    exact h1
theorem cut_facts (i l ct : Nat) (h : i < l) (h2 : l ≤ 100) (hc : l ≤ ct) : IntKind.i64.wrap ((i : Int) + 1) = (i : Int) + 1 ∧ (0 : Int) ≤ (i : Int) + 1 ∧ (i : Int) + 1 ≤ (l : Int) ∧ ((i : Int) + 1).toNat = i + 1 ∧ i ≤ ct ∧ Hid (i + (l - (i + 1)) ≤ maxLen ∧ (i + (l - (i + 1))) * 8 ≤ 140737488355328 ∧ 0 + i ≤ maxLen ∧ (0 + i) * 8 ≤ 140737488355328) := by
  refine ⟨by rw [IntKind.wrap_i64]; omega, by omega, by omega, by omega, by omega, Lib.hid ⟨?_, by omega, ?_, by omega⟩⟩
  · unfold maxLen; omega
  · unfold maxLen; omega
set_option maxRecDepth 100000 in
set_option maxHeartbeats 8000000 in
theorem ArenaReuses_walk (many : Int) (hmany : 0 ≤ many ∧ many ≤ 255) (v : Value) (xs : List Int) (more : Int) (hmore : 0 ≤ more ∧ more ≤ 255) (w : World) (R0 : RdV w v xs.length 1 (xs.map (Value.int .u8))) (hx : ∀ n ∈ xs, (Lit.int .u8 n).wf = true) :
    Calls Try.prog 3 #[.int .u8 many, v, .int .u8 more] w fun e w' => e = .returned (.bool true) ∧ Below w.heap.size w w' := by
  have hm0 := R0.short
  unfold maxLen at hm0
  obtain ⟨a0, c0, rfl⟩ := R0.len
  have hcap := R0.capLe
  have HM0 := Lib.hid hm0
  clear hm0
  have HR0 := Lib.hid R0
  have HX := Lib.hid hx
  clear R0 hx
  obtain ⟨i3, hi3, hz3, hs3, hb3⟩ := info_parts info_ref
  have I3 := Lib.hid (And.intro hi3 (And.intro hz3 (And.intro hs3 hb3)))
  clear hi3 hz3 hs3 hb3
  obtain ⟨n, hn⟩ : ∃ n : Nat, (n : Int) = 1 + many % 20 := ⟨(1 + many % 20).toNat, by omega⟩
  obtain ⟨K, hK⟩ : ∃ K : Nat, (K : Int) = 1 + more % 10 := ⟨(1 + more % 10).toNat, by omega⟩
  have hn1 : 1 ≤ n ∧ n ≤ 20 := by omega
  have hK1 : 1 ≤ K ∧ K ≤ 10 := by omega
  obtain ⟨n1, n2⟩ := hn1
  obtain ⟨K1, K2⟩ := hK1
  obtain ⟨m0, m1⟩ := hmany
  obtain ⟨o0, o1⟩ := hmore
  go_enter Try.func3, Try.ntmps3
  go_wp2_with fail
  refine (Awake_calls w _ (Fr.refl _ _)).mono ?_
  rintro e w1 ⟨rfl, F1⟩
  have H1 : Heap w w1 [] := (Heap.start w).go F1
  clear F1
  go_wp2_with fail
  refine (New_h H1 40).mono ?_
  rintro e w2 ⟨rfl, H2⟩
  generalize w1.heap.size = a at *
  have H3 : Heap w w2 [areP a (newAr 40), rowP 27 1 nilS 0 (intC (rl [])), rowP 27 1 nilS 0 (intC (rl []))] := Heap.pushNil (Heap.pushNil H2 27 1) 27 1
  have HH := Lib.hid H3
  have FF := Lib.hid (Fe.start)
  clear H1 H2 H3
  have nn : (1 : Int) + many % 20 = (n : Int) := hn.symm
  have hnN := Lib.hid hn
  clear hn
  go_wp2_with fail
  go_loopw [9, 29] (fun t i wr => ∃ (k : Nat) (ar : Ar), k ≤ n ∧ i = .int .i64 k ∧ Hid (Fe ar k (List.range k) []) ∧ Hid (Heap w wr [areP a ar, rowP 27 1 t k (intC (rl (List.range k))), rowP 27 1 nilS 0 (intC (rl []))])) (fun _ i _ => n - (intOf i).toNat)
  case atStart => exact ⟨0, newAr 40, Nat.zero_le _, rfl, FF, HH⟩
  case round =>
    clear HH FF
    obtain ⟨k, ar, hk, rfl, FF, HH⟩ := hrel
    obtain ⟨pt, ct, rfl, _, _⟩ := (HH.out.row 1 rfl).form
    by_cases hlt : k < n
    · obtain ⟨e1, F'⟩ := FF.out.more (by omega) noNd noNd_few
      have C1 := AllocNo_h HH.out 0 rfl ((FF.out.ok.up (M := 100) (by simp; omega)).more (by omega)) false false
      change Calls Try.prog 12 #[.pointer (some ⟨a, 0, none⟩), .agg #[.bool false, .bool false, .slice none 0 0, .slice none 0 0, .slice none 0 0]] _ fun e w' => e = .returned (.tuple #[.int .i64 (allocAr noNd ar).1.1, .bool (allocAr noNd ar).1.2]) ∧ Heap w w' ([areP a ar, rowP 27 1 (.slice pt k ct) k (intC (rl (List.range k))), rowP 27 1 nilS 0 (intC (rl []))].set 0 (areP a (allocAr noNd ar).2)) at C1
      rw [e1] at C1
      generalize (allocAr noNd ar).2 = ar' at *
      have CC := Lib.hid C1
      have FF' := Lib.hid F'
      clear C1 F' e1 HH FF
      go_wp2_with fail
      refine CC.out.mono ?_
      rintro e w6 ⟨rfl, H3⟩
      clear CC
      have H4 : Heap w w6 [areP a ar', rowP 27 1 (.slice pt k ct) k (intC (rl (List.range k))), rowP 27 1 nilS 0 (intC (rl []))] := H3
      have Q2 := Lib.hid (H4.row 1 rfl)
      have HH := Lib.hid H4
      clear H3 H4
      have hlm : k + 1 ≤ maxLen := by unfold maxLen; omega
      have hlb : (k + 1) * 8 ≤ 140737488355328 := by omega
      have HL := Lib.hid (And.intro hlm hlb)
      clear hlm hlb
      generalize hrf : refOf (k : Int) 1 = rf at *
      have HRF := Lib.hid hrf
      clear hrf
      go_wp2_with (at_builtin; refine wpList_append_typed _ rfl _ _ _ (by rfl) 27 i3 _ 1 8 Try.underlying26 I3.out.1 I3.out.2.1 I3.out.2.2.1 I3.out.2.2.2 rfl (by decide) (.slice pt k ct) k _ (by rfl) (Q2.out.fr (F := nob) (by repeat (first | exact Fr.refl _ _ | apply Fr.drew | apply Fr.alloc)) (fun _ _ _ x => x)) _ 1 [.int .i64 rf] (by rfl) (RdV.block (cs := #[.int .i64 rf]) (t := 27) (by repeat (first | exact Blk.new' rfl _ _ | apply Blk.drew | apply Blk.alloc)) rfl (by decide)) (by simp [Value.oneCell']) HL.out.1 HL.out.2 ?_)
      intro a' c' w' q' grow hat
      have q2 : QRow w' 27 1 (.slice a' (k + 1) c') (k + 1) (intC (rl (List.range (k + 1)))) := by
        rw [rl_range, intC_app, HRF.out]; exact q'
      have HG := HH.out.growRow 1 rfl (Fr.alloc (Fr.refl nob w6) (.cells #[.int .i64 rf] 27)) q2 grow (fun g hg => (hat g hg).imp_left (fun h => h.imp_right (fun h => by simpa using h)))
      have HGG : Hid (Heap w w' [areP a ar', rowP 27 1 (.slice a' (k + 1) c') (k + 1) (intC (rl (List.range (k + 1)))), rowP 27 1 nilS 0 (intC (rl []))]) := Lib.hid HG
      clear q' q2 grow hat HG
      go_wp2_with fail
      exact ⟨⟨k + 1, ar', by omega, by go_num, FF', HGG⟩, by simp [intOf] <;> omega⟩
    · have hke : k = n := by omega
      subst k
      clear hlt hk
      have hL0 : (List.range n).length = n := List.length_range
      generalize List.range n = L0 at *
      go_upto_region 11 with fail
      go_cut [47, 48, 49] (fun s47 s48 s49 wx => Hid (∃ m : Nat, m ≤ n ∧ m ≤ xs.length ∧ s47 = .slice a0 m c0 ∧ s48 = .int .i64 m ∧ s49 = .int .i64 0 ∧ wx = wr))
      case first =>
        go_wp2_with fail
        all_goals
          go_meet
          first | exact Lib.hid ⟨n, Nat.le_refl _, by omega, rfl, rfl, rfl, rfl⟩ | exact Lib.hid ⟨xs.length, by omega, Nat.le_refl _, rfl, rfl, rfl, rfl⟩
      case rest =>
        obtain ⟨m, hmn, hmx, rfl, rfl, rfl, rfl⟩ := hcut.out
        go_wp2_with fail
        go_loopw [9, 10, 49] (fun t g i wr => ∃ (k : Nat) (ar : Ar) (L G : List Nat), k ≤ m ∧ i = .int .i64 k ∧ L.length + k = n ∧ G.length = k ∧ Hid (Fe ar n L G) ∧ Hid (Heap w wr [areP a ar, rowP 27 1 t L.length (intC (rl L)), rowP 27 1 g k (intC (rl G))])) (fun _ _ i _ => m - (intOf i).toNat)
        case atStart => 
          refine ⟨0, ar, L0, [], Nat.zero_le _, rfl, hL0, rfl, FF, ?_⟩
          rw [hL0]; exact HH
        case round =>
          clear HH FF
          obtain ⟨k, ar, L, G, hk, rfl, hL, hG, FF, HH⟩ := hrel
          obtain ⟨pt, ct, rfl, _, _⟩ := (HH.out.row 1 rfl).form
          obtain ⟨pg, cg, rfl, _, _⟩ := (HH.out.row 2 rfl).form
          generalize hl : L.length = l at *
          have HLL := Lib.hid hl
          have HGG := Lib.hid hG
          clear hl hG
          by_cases hlt : k < m
          · obtain ⟨b1, eb, hc1, hat1⟩ := (HR0.out.fr HH.out.fr (fun _ _ _ (x : nob _) => x)).at (by omega)
            subst eb
            have hxk : k < xs.length := by omega
            obtain ⟨x, hx⟩ : ∃ x, xs[k]? = some x := ⟨_, List.getElem?_eq_getElem hxk⟩
            have x1 : wr.cell? (b1.add k) = some (.int .u8 x) := hat1 _ _ (by simp [hx])
            have bx := bounds_u8 (HX.out x (List.mem_of_getElem? hx))
            obtain ⟨bx0, bx1⟩ := bx
            clear hat1 hx hc1
            have hl0 : 0 < l := by omega
            obtain ⟨i, hi⟩ : ∃ i : Nat, x % (l : Int) = (i : Int) := ⟨(x % (l : Int)).toNat, by have := Int.emod_nonneg x (show (l : Int) ≠ 0 by omega); omega⟩
            have hil : i < l := by have := Int.emod_lt_of_pos x (show (0 : Int) < (l : Int) by omega); omega
            obtain ⟨p, hp⟩ : ∃ p, L[i]? = some p := ⟨_, List.getElem?_eq_getElem (by rw [HLL.out]; exact hil)⟩
            obtain ⟨g1, o1', cur, e, hcur, hcap1, hat⟩ := (HH.out.row 1 rfl).at hl0
            subst e
            have y1 : wr.cell? ⟨g1, o1' + i, none⟩ = some (.int .i64 (refOf (p : Nat) 1)) := hat _ _ (intC_get' _ _ _ (rl_get hp))
            have CL := Lib.hid ((HH.out.row 1 rfl).cutL (i := i) (by omega))
            obtain ⟨A, hA, cr⟩ := (HH.out.row 1 rfl).cutR (i := i) (by omega)
            have CR := Lib.hid cr
            clear hat hcur cr
            obtain ⟨e1, F'⟩ := FF.out.freed (by omega) hp
            have C1 := fun (q1 q2 : Piece) (z : World) (hz : Heap w z [areP a ar, q1, q2]) => Free_h hz 0 rfl ((FF.out.ok.up (M := 100) (by have := HGG.out; omega)).ok (by omega)) (by rw [FF.out.free, HGG.out]; omega) (refOf (p : Nat) 1)
            rw [e1] at C1
            generalize (freeAr (refOf (p : Nat) 1) ar).2 = ar' at *
            have CC := Lib.hid C1
            have FF' := Lib.hid F'
            have hlen' : (L.take i ++ L.drop (i + 1)).length = i + (l - (i + 1)) := by simp [HLL.out]; omega
            have hrl : intC (rl (L.take i ++ L.drop (i + 1))) = (intC (rl L)).take i ++ (intC (rl L)).drop (i + 1) := by simp [intC, rl]
            have HR := Lib.hid (And.intro hlen' hrl)
            have hG' : rl (G ++ [p]) = rl G ++ [refOf (p : Nat) 1] := by rw [rl_app]; rfl
            have HG' := Lib.hid hG'
            have HP := Lib.hid hp
            clear C1 F' e1 FF hlen' hrl hG' hp
            have Q2 := Lib.hid (HH.out.row 2 rfl)
            have hlm : k + 1 ≤ maxLen := by unfold maxLen; omega
            have hlb : (k + 1) * 8 ≤ 140737488355328 := by omega
            have HL := Lib.hid (And.intro hlm hlb)
            clear hlm hlb
            generalize hrf : refOf (p : Int) 1 = rf at *
            go_wp2_with (at_builtin; refine wpList_append_typed _ rfl _ _ _ (by rfl) 27 i3 _ 1 8 Try.underlying26 I3.out.1 I3.out.2.1 I3.out.2.2.1 I3.out.2.2.2 rfl (by decide) (.slice pg k cg) k _ (by rfl) (Q2.out.fr (F := nob) (by repeat (first | exact Fr.refl _ _ | apply Fr.drew | apply Fr.alloc)) (fun _ _ _ x => x)) _ 1 [.int .i64 rf] (by rfl) (RdV.block (cs := #[.int .i64 rf]) (t := 27) (by repeat (first | exact Blk.new' rfl _ _ | apply Blk.drew | apply Blk.alloc)) rfl (by decide)) (by simp [Value.oneCell']) HL.out.1 HL.out.2 ?_)
            intro a' c' w' q' grow hat
            have q2 : QRow w' 27 1 (.slice a' (k + 1) c') (k + 1) (intC (rl (G ++ [p]))) := by
              rw [HG'.out, intC_app]; exact q'
            have H4 := HH.out.growRow 2 rfl (Fr.alloc (Fr.refl nob wr) (.cells #[.int .i64 rf] 27)) q2 grow (fun g hg => (hat g hg).imp_left (fun h => h.imp_right (fun h => by simpa using h)))
            have HH4 : Hid (Heap w w' [areP a ar, rowP 27 1 (.slice (some ⟨g1, o1', none⟩) l ct) l (intC (rl L)), rowP 27 1 (.slice a' (k + 1) c') (k + 1) (intC (rl (G ++ [p])))]) := Lib.hid H4
            clear q' q2 grow hat H4 HH
            obtain ⟨g1', o1'', cur', e', _, _, hat'⟩ := (HH4.out.row 1 rfl).at hl0
            simp only [Option.some.injEq, Addr.mk.injEq, and_true] at e'
            obtain ⟨e1', e2'⟩ := e'
            have y2 : w'.cell? ⟨g1, o1' + i, none⟩ = some (.int .i64 rf) := by rw [e1', e2', ← hrf]; exact hat' _ _ (intC_get' _ _ _ (rl_get HP.out))
            clear hat' e1' e2' y1
            have HRF := Lib.hid hrf
            clear hrf
            go_wp2_with fail
            refine (CC.out _ _ _ HH4.out).mono ?_
            rintro e w7 ⟨rfl, H5⟩
            have H6 : Heap w w7 [areP a ar', rowP 27 1 (.slice (some ⟨g1, o1', none⟩) l ct) l (intC (rl L)), rowP 27 1 (.slice a' (k + 1) c') (k + 1) (intC (rl (G ++ [p])))] := H5
            have HH6 := Lib.hid H6
            clear H5 H6 HH4 CC
            go_upto_region 18 with fail
            obtain ⟨hwr0, hp0, hp1, hp2, hic, HL2⟩ := cut_facts i l ct hil (by omega) (by omega)
            have HWR := Lib.hid hwr0
            clear hwr0
            have CL2 := Lib.hid ((HH6.out.row 1 rfl).cutL (i := i) (by omega))
            have CR2 : Hid (RdV w7 (.slice (some A) (l - (i + 1)) (ct - (i + 1))) (l - (i + 1)) 1 ((intC (rl L)).drop (i + 1))) := by
              obtain ⟨A', hA', cr⟩ := (HH6.out.row 1 rfl).cutR (i := i) (by omega)
              rw [hA] at hA'
              obtain rfl := Option.some.inj hA'
              exact Lib.hid cr
            refine wp_region_noPanic ?_
            refine AnyK.start (ks := []) (S := fun w' => True) (by kernel_rfl) trivial (fun _ => ?_)
            have hwr := HWR.out
            refine AnyK.take (i := 1) (v := ?_) rfl (by kernel_rfl) (by kernel_rfl) (by kernel_rfl) (by kernel_rfl) (fun _ _ _ h => h) (Or.inl ⟨by rfl, ?_⟩) trivial ?_
            rotate_left
            focus
              intro w9 hSw
              try dsimp only at hSw
              go_simp
              try with_reducible rfl
            try simp only [Act.put, List.setIfInBounds_toArray, List.set_cons_zero, List.set_cons_succ]
            refine AnyK.take (i := 2) (v := ?_) rfl (by kernel_rfl) (by kernel_rfl) (by kernel_rfl) (by kernel_rfl) (fun _ _ _ h => h) (Or.inl ⟨by rfl, ?_⟩) trivial ?_
            rotate_left
            focus
              intro w9 hSw
              try dsimp only at hSw
              go_simp
              try with_reducible rfl
            try simp only [Act.put, List.setIfInBounds_toArray, List.set_cons_zero, List.set_cons_succ]
            refine AnyK.take (i := 3) (v := ?_) rfl (by kernel_rfl) (by kernel_rfl) (by kernel_rfl) (by kernel_rfl) (fun _ _ _ h => h) (Or.inl ⟨by rfl, ?_⟩) trivial ?_
            rotate_left
            focus
              intro w9 hSw
              try dsimp only at hSw
              go_simp
              try with_reducible rfl
            try simp only [Act.put, List.setIfInBounds_toArray, List.set_cons_zero, List.set_cons_succ]
            refine AnyK.take (i := 5) (v := ?_) rfl (by kernel_rfl) (by kernel_rfl) (by kernel_rfl) (by kernel_rfl) (fun _ _ _ h => h) (Or.inl ⟨by rfl, ?_⟩) trivial ?_
            rotate_left
            focus
              intro w9 hSw
              try dsimp only at hSw
              go_simp
              try with_reducible rfl
            try simp only [Act.put, List.setIfInBounds_toArray, List.set_cons_zero, List.set_cons_succ]
            refine AnyK.take (i := 6) (v := ?_) rfl (by kernel_rfl) (by kernel_rfl) (by kernel_rfl) (by kernel_rfl) (fun _ _ _ h => h) (Or.inl ⟨by rfl, ?_⟩) trivial ?_
            rotate_left
            focus
              intro w9 hSw
              try dsimp only at hSw
              go_simp
              try with_reducible rfl
            try simp only [Act.put, List.setIfInBounds_toArray, List.set_cons_zero, List.set_cons_succ]
            refine AnyK.take (i := 7) (v := ?_) rfl (by kernel_rfl) (by kernel_rfl) (by kernel_rfl) (by kernel_rfl) (fun _ _ _ h => h) (Or.inl ⟨by rfl, ?_⟩) trivial ?_
            rotate_left
            focus
              intro w9 hSw
              try dsimp only at hSw
              go_simp
              try with_reducible rfl
            try simp only [Act.put, List.setIfInBounds_toArray, List.set_cons_zero, List.set_cons_succ]
            refine AnyK.take (i := 8) (v := ?_) rfl (by kernel_rfl) (by kernel_rfl) (by kernel_rfl) (by kernel_rfl) (fun _ _ _ h => h) (Or.inl ⟨by rfl, ?_⟩) trivial ?_
            rotate_left
            focus
              intro w9 hSw
              try dsimp only at hSw
              go_simp
              try with_reducible rfl
            try simp only [Act.put, List.setIfInBounds_toArray, List.set_cons_zero, List.set_cons_succ]
            refine AnyK.one (i := 0) (by kernel_rfl) rfl (fun K hK => ?_)
            go_simp
            refine hK.out _ _ (fun _ => trivial) ?_
            clear hK K
            try simp only [Act.put, List.setIfInBounds_toArray, List.set_cons_zero, List.set_cons_succ]
            clear hwr
            generalize hH : w7.heap.size = H at *
            have HHZ := Lib.hid hH
            clear hH
            refine AnyK.one (i := 4) (by kernel_rfl) rfl (fun K hK => ?_)
            refine step_append_typed _ (by rfl) (.tmp 72) (.tmp 75) 26 (by rfl) 27 i3 _ 1 8 Try.underlying26 I3.out.1 I3.out.2.1 I3.out.2.2.1 I3.out.2.2.2 rfl (by decide) (.slice (some ⟨H, 0, none⟩) 0 0) 0 [] (by simp [Act.eval]) (QRow.none0 _ _) (.slice (some ⟨g1, o1', none⟩) i ct) i ((intC (rl L)).take i) (by simp [Act.eval]) (CL2.out.fr (S := nob) (by repeat (first | exact Fr.refl _ _ | apply Fr.drew | apply Fr.alloc)) (fun _ _ _ x => x)) (fun u hu => intC_one _ u (List.mem_of_mem_take hu)) HL2.out.2.2.1 HL2.out.2.2.2 ?_
            rw [Nat.zero_add]
            intro a2 c2 w2 q2 grow2 hat2
            have f2 : Fr nob w7 w2 := Fr.grown (by repeat (first | exact Fr.refl _ _ | apply Fr.drew | apply Fr.alloc)) grow2 (fun k hk => .inr (by simp [Value.ownBlock] at hk; have := HHZ.out; omega))
            have HQ2 := Lib.hid (And.intro q2 (And.intro grow2 hat2))
            clear q2 grow2 hat2
            refine hK.out _ _ (fun _ => trivial) ?_
            clear hK K
            try simp only [Act.put, List.setIfInBounds_toArray, List.set_cons_zero, List.set_cons_succ]
            refine AnyK.one (i := 9) (by kernel_rfl) rfl (fun K hK => ?_)
            refine step_append_typed _ (by rfl) (.tmp 76) (.tmp 80) 26 (by rfl) 27 i3 _ 1 8 Try.underlying26 I3.out.1 I3.out.2.1 I3.out.2.2.1 I3.out.2.2.2 rfl (by decide) (.slice a2 i c2) i _ (by simp [Act.eval]) HQ2.out.1 (.slice (some A) (l - (i + 1)) (ct - (i + 1))) (l - (i + 1)) ((intC (rl L)).drop (i + 1)) (by simp [Act.eval]) (CR2.out.fr (S := nob) f2 (fun _ _ _ x => x)) (fun u hu => intC_one _ u (List.mem_of_mem_drop hu)) HL2.out.1 HL2.out.2.1 ?_
            intro a3 c3 w3 q3 grow3 hat3
            have HQ3 := Lib.hid (And.intro q3 (And.intro grow3 hat3))
            clear q3 grow3 hat3
            refine hK.out _ _ (fun _ => trivial) ?_
            clear hK K
            try simp only [Act.put, List.setIfInBounds_toArray, List.set_cons_zero, List.set_cons_succ]
            refine AnyK.one (i := 10) (by kernel_rfl) rfl (fun K hK => ?_)
            go_simp
            refine hK.out _ _ (fun _ => trivial) ?_
            clear hK K
            try simp only [Act.put, List.setIfInBounds_toArray, List.set_cons_zero, List.set_cons_succ]
            refine AnyK.done (by kernel_rfl) ?_ _
            refine NoPanic.normal ?_
            have HN : Hid (Heap w w3 [areP a ar', rowP 27 1 (.slice a3 (i + (l - (i + 1))) c3) (i + (l - (i + 1))) (intC (rl (L.take i ++ L.drop (i + 1)))), rowP 27 1 (.slice a' (k + 1) c') (k + 1) (intC (rl (G ++ [p])))]) := by
              obtain ⟨q2, grow2, hat2⟩ := HQ2.out
              obtain ⟨q3, grow3, hat3⟩ := HQ3.out
              have K1 := HH6.out.pushRow f2 q2 (fun g hg => by
                have hsz : H ≤ w2.heap.size := by have := f2.size; have := HHZ.out; omega
                rcases hat2 g hg with ⟨_, hw, hv⟩ | ⟨hx, c, hc⟩
                · rw [hv] at hg
                  simp [Value.ownBlock] at hg
                  subst hg
                  rw [hw]
                  refine ⟨by have := HHZ.out; omega, by have := HHZ.out; simp; omega, #[], ?_⟩
                  rw [← HHZ.out]
                  exact (Blk.new _ _ _).drew
                · refine ⟨?_, hc.lt, c, hc⟩
                  rcases hx with hx | hx
                  · simp [Value.ownBlock] at hx
                    have := HHZ.out; omega
                  · simp at hx; omega)
              have K2 := K1.growRow 3 rfl (Fr.refl nob w2) q3 grow3 (fun g hg => by
                rcases hat3 g hg with ⟨h0, hw, hv⟩ | h
                · rw [hv] at hg
                  obtain ⟨S, hS, _⟩ := K1.get 3 rfl
                  rw [hw]
                  exact ⟨.inl hg, (hS.2 g hg).2⟩
                · exact h)
              have K3 := K2.idx (l' := [areP a ar', rowP 27 1 (.slice a3 (i + (l - (i + 1))) c3) (i + (l - (i + 1))) ((intC (rl L)).take i ++ (intC (rl L)).drop (i + 1)), rowP 27 1 (.slice a' (k + 1) c') (k + 1) (intC (rl (G ++ [p])))]) (fun j => if j = 1 then 3 else j) (fun j hj => by
                simp only [List.length_cons, List.length_nil] at hj
                rcases (by omega : j = 0 ∨ j = 1 ∨ j = 2) with rfl | rfl | rfl <;> rfl) (fun x y hx hy e => by
                simp only [List.length_cons, List.length_nil] at hx hy
                rcases (by omega : x = 0 ∨ x = 1 ∨ x = 2) with rfl | rfl | rfl <;> rcases (by omega : y = 0 ∨ y = 1 ∨ y = 2) with rfl | rfl | rfl <;> simp at e ⊢)
              rw [HR.out.2]
              exact Lib.hid K3
            clear HQ2 HQ3 HH6 CL2 CR2 f2 HWR
            go_wp2_with fail
            refine ⟨⟨k + 1, ar', L.take i ++ L.drop (i + 1), G ++ [p], by omega, by go_num, by rw [HR.out.1]; omega, by rw [List.length_append, HGG.out]; rfl, FF', ?_⟩, by simp [intOf]; omega⟩
            rw [HR.out.1]; exact HN
          · have hkm : m = k := by omega
            clear hlt hk
            subst hkm
            have R0 := FF.out.re
            have RR := Lib.hid R0
            clear R0 FF
            obtain ⟨R0, R1⟩ := RR.out
            have HND := Lib.hid R1
            have RR0 := Lib.hid R0
            clear R0 R1 RR
            have kk : (1 : Int) + more % 10 = (K : Int) := hK.symm
            have HKK := Lib.hid hK
            clear hK
            have hlG : l + m = n := hL
            go_wp2_with fail
            go_loopw [16, 88] (fun f i wr => ∃ (j : Nat) (ar : Ar) (fr : Nat), j ≤ K ∧ i = .int .i64 j ∧ f = .int .i64 (fr : Int) ∧ fr ≤ 40 ∧ Hid (fr = n + (j - m)) ∧ Hid (Re ar n G j) ∧ Hid (Heap w wr [areP a ar, rowP 27 1 (.slice pt l ct) l (intC (rl L)), rowP 27 1 (.slice pg m cg) m (intC (rl G))])) (fun _ i _ => K - (intOf i).toNat)
            case atStart => exact ⟨0, ar, n, Nat.zero_le _, rfl, rfl, by omega, Lib.hid (by omega), RR0, HH⟩
            case round =>
              clear HH RR0
              obtain ⟨j, ar, fr, hj, rfl, rfl, hfr, HFR, RR, HH⟩ := hrel
              by_cases hlt : j < K
              · by_cases hold : j < m
                · obtain ⟨p, hp⟩ : ∃ p, G[j]? = some p := ⟨_, List.getElem?_eq_getElem (by rw [HGG.out]; exact hold)⟩
                  obtain ⟨e1, R'⟩ := RR.out.again HND.out hp (by omega) noNd noNd_few (by omega)
                  obtain ⟨hpn, _⟩ := RR.out.gone j p (Nat.le_refl _) hp
                  obtain ⟨g1, o1', cur, e, hcur, hcap1, hat⟩ := (HH.out.row 2 rfl).at (by omega)
                  subst e
                  have y1 : wr.cell? ⟨g1, o1' + j, none⟩ = some (.int .i64 (refOf (p : Nat) 1)) := hat _ _ (intC_get' _ _ _ (rl_get hp))
                  have C1 := AllocNo_h HH.out 0 rfl ((RR.out.ok.up (M := 100) (by have := HGG.out; omega)).more (by omega)) false false
                  change Calls Try.prog 12 #[.pointer (some ⟨a, 0, none⟩), .agg #[.bool false, .bool false, .slice none 0 0, .slice none 0 0, .slice none 0 0]] _ fun e w' => e = .returned (.tuple #[.int .i64 (allocAr noNd ar).1.1, .bool (allocAr noNd ar).1.2]) ∧ Heap w w' ([areP a ar, _, _].set 0 (areP a (allocAr noNd ar).2)) at C1
                  rw [e1] at C1
                  generalize (allocAr noNd ar).2 = ar' at *
                  have CC := Lib.hid C1
                  have RR' := Lib.hid R'
                  have HP := Lib.hid hp
                  clear C1 R' e1 hat hcur hp HH RR
                  go_wp2_with fail
                  refine CC.out.mono ?_
                  rintro e w7 ⟨rfl, H5⟩
                  have H6 : Heap w w7 [areP a ar', rowP 27 1 (.slice pt l ct) l (intC (rl L)), rowP 27 1 (.slice (some ⟨g1, o1', none⟩) m cg) m (intC (rl G))] := H5
                  have HH6 := Lib.hid H6
                  clear H5 H6 CC
                  obtain ⟨g1', o1'', cur', e', _, _, hat'⟩ := (HH6.out.row 2 rfl).at (by omega)
                  simp only [Option.some.injEq, Addr.mk.injEq, and_true] at e'
                  obtain ⟨e1', e2'⟩ := e'
                  have y2 : w7.cell? ⟨g1, o1' + j, none⟩ = some (.int .i64 (refOf (p : Nat) 1)) := by rw [e1', e2']; exact hat' _ _ (intC_get' _ _ _ (rl_get HP.out))
                  clear hat' e1' e2' y1
                  have O1 := Lib.hid (Of_calls (fr : Nat) 1 w7 (by omega) (by omega))
                  have O2 := Lib.hid (Place_calls (refOf (p : Nat) 1) w7)
                  have hpl : refOf (p : Nat) 1 % 1099511627776 - 1 = (p : Int) := by unfold refOf; omega
                  have O3 := Lib.hid (Of_calls (p : Nat) 2 w7 (by omega) (by omega))
                  rw [hpl] at O2
                  clear hpl
                  generalize refOf (p : Nat) 1 = r1 at *
                  generalize refOf (p : Nat) 2 = r2 at *
                  go_wp2_with fail
                  refine O1.out.mono ?_
                  rintro e w' ⟨rfl, hw⟩
                  have hw := hw.symm
                  subst hw
                  generalize refOf (fr : Nat) 1 = r3 at *
                  go_wp2_with fail
                  refine O2.out.mono ?_
                  rintro e w' ⟨rfl, hw⟩
                  have hw := hw.symm
                  subst hw
                  go_wp2_with fail
                  refine O3.out.mono ?_
                  rintro e w' ⟨rfl, hw⟩
                  have hw := hw.symm
                  subst hw
                  go_wp2_with fail
                  refine ⟨⟨j + 1, ar', fr, by omega, by go_num, rfl, hfr, Lib.hid (by have := HFR.out; omega), RR', HH6⟩, by simp [intOf]; omega⟩
                · obtain ⟨e1, R'⟩ := RR.out.fresh (by rw [HGG.out]; omega) (by omega) (by omega) noNd noNd_few
                  have C1 := AllocNo_h HH.out 0 rfl ((RR.out.ok.up (M := 100) (by have := HGG.out; omega)).more (by omega)) false false
                  change Calls Try.prog 12 #[.pointer (some ⟨a, 0, none⟩), .agg #[.bool false, .bool false, .slice none 0 0, .slice none 0 0, .slice none 0 0]] _ fun e w' => e = .returned (.tuple #[.int .i64 (allocAr noNd ar).1.1, .bool (allocAr noNd ar).1.2]) ∧ Heap w w' ([areP a ar, _, _].set 0 (areP a (allocAr noNd ar).2)) at C1
                  rw [e1, HGG.out, ← HFR.out] at C1
                  generalize (allocAr noNd ar).2 = ar' at *
                  have CC := Lib.hid C1
                  have RR' := Lib.hid R'
                  clear C1 R' e1 RR
                  have O1 := Lib.hid (fun z => Of_calls (fr : Nat) 1 z (by omega) (by omega))
                  generalize refOf (fr : Nat) 1 = r3 at *
                  go_wp2_with fail
                  refine CC.out.mono ?_
                  rintro e w7 ⟨rfl, H5⟩
                  have H6 : Heap w w7 [areP a ar', rowP 27 1 (.slice pt l ct) l (intC (rl L)), rowP 27 1 (.slice pg m cg) m (intC (rl G))] := H5
                  have HH6 := Lib.hid H6
                  clear H5 H6 CC HH
                  go_wp2_with fail
                  refine (O1.out w7).mono ?_
                  rintro e w' ⟨rfl, hw⟩
                  have hw := hw.symm
                  subst hw
                  go_wp2_with fail
                  refine ⟨⟨j + 1, ar', fr + 1, by omega, by go_num, by go_num, by have := HFR.out; omega, Lib.hid (by have := HFR.out; omega), RR', HH6⟩, by simp [intOf]; omega⟩
              · have hjK : j = K := by omega
                have C2 := Used_h HH.out 0 rfl
                rw [RR.out.used, HGG.out] at C2
                have hu : (n : Int) - (m : Nat) + (j : Nat) = (n : Int) - (m : Nat) + 1 + more % 10 := by omega
                rw [hu] at C2
                have CC := Lib.hid C2
                clear C2 hu
                go_wp2_with fail
                refine CC.out.mono ?_
                rintro e w' ⟨rfl, hw⟩
                have hw := hw.symm
                subst hw
                go_wp2_with fail
                go_ret
                exact ⟨rfl, HH.out.below⟩
end Go.Proofs.Ytolkpmbmgiplcaa
