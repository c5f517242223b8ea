/- Small.Node: a node of a few things. No condition but that the list's entries are of their kinds. -/
import Derived.Test.YtolkpmbmgiplcaaSameI
namespace Go.Proofs.Ytolkpmbmgiplcaa
open Go Go.RowKit
set_option linter.unusedVariables false
set_option linter.unusedSimpArgs false
structure Sm where
  inner : Bool
  tagged : Bool
  keys : List Int
  ways : List Int
/-- The first n of some numbers. -/
def kys (l : List Int) (n : Nat) : List Int := l.take n
/-- The first n, each with its place. -/
def prs (l : List Int) (n : Nat) : List (Int × Int) := (l.take n).zipIdx.map fun p => (p.1, (p.2 : Int))
theorem kys_succ (l : List Int) (n : Nat) (x : Int) (h : l[n]? = some x) : kys l (n + 1) = kys l n ++ [x] := by
  unfold kys
  rw [List.take_add_one, h]; rfl
theorem kys_len (l : List Int) (n : Nat) (h : n ≤ l.length) : (kys l n).length = n := by
  unfold kys
  rw [List.length_take]; omega
theorem prs_len (l : List Int) (n : Nat) (h : n ≤ l.length) : (prs l n).length = n := by
  unfold prs
  simp; omega
theorem prs_succ (l : List Int) (n : Nat) (x : Int) (h : l[n]? = some x) : prs l (n + 1) = prs l n ++ [(x, (n : Int))] := by
  have hl := (List.getElem?_eq_some_iff.1 h).1
  unfold prs
  rw [List.take_add_one, h, Option.toList_some, List.zipIdx_append, List.map_append]
  simp [List.length_take]
  omega
theorem pairC_app (a : List (Int × Int)) (x y : Int) : pairC (a ++ [(x, y)]) = pairC a ++ [.int .i64 x, .int .i64 y] := by simp [pairC]
theorem intC_app (a : List Int) (x : Int) : intC (a ++ [x]) = intC a ++ [.int .i64 x] := by simp [intC]
/-- The node of a Small, behind k keys and j ways. -/
def Sm.ndAt (s : Sm) (k j : Nat) : Nd := ⟨s.inner, s.tagged, if s.inner then [] else prs s.keys (min k 8), if s.inner then kys s.keys (min k 8) else [], kys s.ways (min j 8)⟩
def Sm.nd (s : Sm) : Nd := s.ndAt s.keys.length s.ways.length
theorem Sm.key (s : Sm) (k j : Nat) (x : Int) (hi : s.inner = true) (h8 : k < 8) (hx : s.keys[k]? = some x) : s.ndAt (k + 1) j = { s.ndAt k j with keys := (s.ndAt k j).keys ++ [x] } := by
  unfold Sm.ndAt
  rw [show min (k + 1) 8 = k + 1 from by omega, show min k 8 = k from by omega, kys_succ _ _ _ hx, hi]
  rfl
theorem Sm.pair (s : Sm) (k j : Nat) (x : Int) (hi : s.inner = false) (h8 : k < 8) (hx : s.keys[k]? = some x) : s.ndAt (k + 1) j = { s.ndAt k j with pairs := (s.ndAt k j).pairs ++ [(x, (k : Int))] } := by
  unfold Sm.ndAt
  rw [show min (k + 1) 8 = k + 1 from by omega, show min k 8 = k from by omega, prs_succ _ _ _ hx, hi]
  rfl
theorem Sm.way (s : Sm) (k j : Nat) (x : Int) (h8 : j < 8) (hx : s.ways[j]? = some x) : s.ndAt k (j + 1) = { s.ndAt k j with ways := (s.ndAt k j).ways ++ [x] } := by
  unfold Sm.ndAt
  rw [show min (j + 1) 8 = j + 1 from by omega, show min j 8 = j from by omega, kys_succ _ _ _ hx]
theorem Sm.keys_len (s : Sm) (k j : Nat) (h : k ≤ s.keys.length) : (s.ndAt k j).keys.length ≤ 8 ∧ (s.ndAt k j).pairs.length ≤ 8 := by
  unfold Sm.ndAt
  cases s.inner
  · simp [prs_len s.keys (min k 8) (by omega)]; omega
  · simp [kys_len s.keys (min k 8) (by omega)]; omega
theorem Sm.ways_len (s : Sm) (k j : Nat) (h : j ≤ s.ways.length) : (s.ndAt k j).ways.length ≤ 8 := by
  unfold Sm.ndAt
  simp [kys_len s.ways (min j 8) (by omega)]; omega
theorem get_at {α : Type} (l m : List α) (j : Nat) : (l ++ m)[l.length + j]? = m[j]? := by rw [List.getElem?_append_right (by omega), Nat.add_sub_cancel_left]
theorem set_at {α : Type} (l m : List α) (j : Nat) (x : α) : (l ++ m).set (l.length + j) x = l ++ m.set j x := by rw [List.set_append_right _ _ (by omega), Nat.add_sub_cancel_left]
/-- A row that grew. -/
theorem Heap.growRow {w0 w wa w' : World} {l : List Piece} (h : Heap w0 w l) (i : Nat) {t : TypeId} {sz n n' : Nat} {v v' : Value} {us us' : List Value} (hi : l[i]? = some (rowP t sz v n us)) (hf : Fr nob w wa)
    (hq : QRow w' t sz v' n' us') (hg : wa.grownBy w' v.ownBlock) (hat : ∀ g, v'.ownBlock = some g → (v.ownBlock = some g ∨ wa.heap.size ≤ g) ∧ ∃ c, Blk w' g t c) : Heap w0 w' (l.set i (rowP t sz v' n' us')) := by
  obtain ⟨S, h1, hs, U⟩ := h.take i hi
  have F : Fr S w w' := (hf.mono (fun k _ (x : nob k) => x.elim)).grown hg (fun k hk => .inl (h1.2 k hk).1)
  refine U (S' := fun k => v'.ownBlock = some k) F ⟨hq, fun g hg => ⟨hg, (hat g hg).2⟩⟩ (fun k hk => ?_)
  obtain ⟨hx, c, hc⟩ := hat k hk
  rcases hx with hx | hx
  · exact .inl (h1.2 k hx).1
  · exact .inr ⟨Nat.le_trans hf.size hx, hc.lt⟩
theorem Heap.drop3 {w0 w : World} {l r : List Piece} {a b c : Piece} (h : Heap w0 w (l ++ (a :: b :: c :: r))) : Heap w0 w (l ++ r) := Heap.mid (m := [a, b, c]) (by rw [List.append_assoc]; exact h)
def smL (s : Sm) (H bR bn : Nat) (va vb : Value) (nd : Nd) (vp vk vn : Value) : List Piece :=
  [blkP H 44 #[.bool s.inner, .bool s.tagged, va, vb], blkP bR 36 #[.bool false, .bool false, nilS, nilS, nilS],
   blkP bn 36 #[.bool nd.inner, .bool nd.tagged, vp, vk, vn]] ++ ndL nd vp vk vn
section
variable {w0 w : World} {l : List Piece}
set_option maxHeartbeats 4000000 in
theorem Node_h (h : Heap w0 w l) (s : Sm) (va vb : Value) (ha : RdV w0 va s.keys.length 1 (s.keys.map (Value.int .i8))) (hb : RdV w0 vb s.ways.length 1 (s.ways.map (Value.int .u8)))
    (ra : ∀ x ∈ s.keys, -128 ≤ x ∧ x ≤ 127) (rb : ∀ x ∈ s.ways, 0 ≤ x ∧ x ≤ 255) :
    Calls Try.prog 17 #[.agg #[.bool s.inner, .bool s.tagged, va, vb]] w fun e w' => ∃ vp vk vn, e = .returned (ndV s.nd vp vk vn) ∧ Heap w0 w' (l ++ ndL s.nd vp vk vn) := by
  have hma := ha.short
  have hmb := hb.short
  unfold maxLen at hma hmb
  obtain ⟨a1, c1, rfl⟩ := ha.len
  obtain ⟨a2, c2, rfl⟩ := hb.len
  have h1 := h.alloc 44 #[.bool s.inner, .bool s.tagged, .slice a1 s.keys.length c1, .slice a2 s.ways.length c2]
  have h2 := h1.alloc 36 #[.bool false, .bool false, nilS, nilS, nilS]
  have h3 := ((((h2.alloc 36 #[.bool s.inner, .bool s.tagged, nilS, nilS, nilS]).pushNil 47 2).pushNil 2 1).pushNil 27 1)
  simp only [World.size_alloc, List.append_assoc] at h3
  have HA := Lib.hid ha
  have HB := Lib.hid hb
  have H3 := Lib.hid h3
  generalize hH : w.heap.size = H at *
  obtain ⟨i1, hi1, hz1, hs1, hb1⟩ := info_parts info_pair
  obtain ⟨i2, hi2, hz2, hs2, hb2⟩ := info_parts info_i64
  obtain ⟨i3, hi3, hz3, hs3, hb3⟩ := info_parts info_ref
  have RA := Lib.hid ra
  have RB := Lib.hid rb
  have I1 := Lib.hid (And.intro hi1 (And.intro hz1 (And.intro hs1 hb1)))
  have I2 := Lib.hid (And.intro hi2 (And.intro hz2 (And.intro hs2 hb2)))
  have I3 := Lib.hid (And.intro hi3 (And.intro hz3 (And.intro hs3 hb3)))
  clear h1 h2 h3 h ha hb ra rb hi1 hi2 hi3 hz1 hz2 hz3 hs1 hs2 hs3 hb1 hb2 hb3
  go_enter Try.func17, Try.ntmps17
  go_wp2_with fail
  generalize H + 1 + 1 = bn at *
  generalize H + 1 = bR at *
  go_loopw [16] (fun i wr => ∃ (k : Nat) (vp vk vn : Value), k ≤ s.keys.length ∧ i = .int .i64 k ∧ Hid (Heap w0 wr (l ++ smL s H bR bn (.slice a1 s.keys.length c1) (.slice a2 s.ways.length c2) (s.ndAt k 0) vp vk vn))) (fun i _ => s.keys.length - (intOf i).toNat)
  case atStart =>
    refine ⟨0, nilS, nilS, nilS, Nat.zero_le _, rfl, Lib.hid ?_⟩
    have e : s.ndAt 0 0 = ⟨s.inner, s.tagged, [], [], []⟩ := by cases s with | mk a b c d => cases a <;> rfl
    rw [e]
    exact H3.out
  case round =>
    obtain ⟨k, vp, vk, vn, hk, rfl, HH⟩ := hrel
    have hbS := HH.out.blk (l.length + 0) (by rw [get_at]; rfl)
    have hbn := HH.out.blk (l.length + 2) (by rw [get_at]; rfl)
    have s0 : wr.cell? ⟨H, 0, none⟩ = some (.bool s.inner) := hbS.cell 0
    have s3 : wr.cell? ⟨H, 3, none⟩ = some (.slice a2 s.ways.length c2) := hbS.cell 3
    have q2 := HH.out.row (l.length + 3) (by rw [get_at]; rfl)
    have q3 := HH.out.row (l.length + 4) (by rw [get_at]; rfl)
    obtain ⟨p2, d2, rfl, _, _⟩ := q2.form
    obtain ⟨p3, d3, rfl, _, _⟩ := q3.form
    have Q2 := Lib.hid q2
    have Q3 := Lib.hid q3
    clear q2 q3
    have n2 : wr.cell? ⟨bn, 2, none⟩ = some (.slice p2 (s.ndAt k 0).pairs.length d2) := hbn.cell 2
    have n3 : wr.cell? ⟨bn, 3, none⟩ = some (.slice p3 (s.ndAt k 0).keys.length d3) := hbn.cell 3
    have y2 := hbn.froz 2
    have y3 := hbn.froz 3
    have ln := hbn.lt
    have lS := hbS.lt
    have hne : H ≠ bn := by have := hbS.ne hbn (by decide); exact this
    have hne' := hne.symm
    clear hbS hbn
    by_cases hlt : k < s.keys.length
    · obtain ⟨x, hx⟩ : ∃ p, s.keys[k]? = some p := ⟨_, List.getElem?_eq_getElem hlt⟩
      have R := HA.out.fr HH.out.fr (fun _ _ _ (x : nob _) => x)
      obtain ⟨b1, rfl, hc1, hat1⟩ := R.at (by omega)
      have x1 : wr.cell? (b1.add k) = some (.int .i8 x) := hat1 k _ (by rw [List.getElem?_map, hx]; rfl)
      obtain ⟨rx1, rx2⟩ := RA.out x (List.mem_of_getElem? hx)
      clear hat1 R
      by_cases h8 : k < 8
      · cases hin : s.inner with
        | true =>
          rw [hin] at s0
          have hlm : (s.ndAt k 0).keys.length + 1 ≤ maxLen := by have := s.keys_len k 0 hk; unfold maxLen; omega
          have hlb : ((s.ndAt k 0).keys.length + 1) * 8 ≤ 140737488355328 := by have := s.keys_len k 0 hk; omega
          have HL := Lib.hid (And.intro hlm hlb)
          clear hlm hlb
          go_wp2_with (at_builtin; refine wpList_append_typed _ rfl _ _ _ (by rfl) 2 i2 _ 1 8 Try.underlying32 I2.out.1 I2.out.2.1 I2.out.2.2.1 I2.out.2.2.2 rfl (by decide) (.slice p3 (s.ndAt k 0).keys.length d3) (s.ndAt k 0).keys.length _ (by rfl) (Q3.out.fr (F := nob) (by repeat (first | exact Fr.refl _ _ | apply Fr.drew | apply Fr.alloc)) (fun _ _ _ x => x)) _ 1 [.int .i64 x] (by rfl) (RdV.block (cs := #[.int .i64 x]) (t := 2) (by repeat (first | exact Blk.new' rfl _ _ | apply Blk.drew | apply Blk.alloc)) rfl (by decide)) (by simp [Value.oneCell']) HL.out.1 HL.out.2 ?_)
          intro a' c' w' q' grow hat
          rw [← intC_app, show (s.ndAt k 0).keys.length + 1 = ((s.ndAt k 0).keys ++ [x]).length from by simp] at q'
          have HG := HH.out.growRow (l.length + 4) (by rw [get_at]; rfl) (Fr.alloc (Fr.refl nob wr) _) q' grow (fun g hg => (hat g (by rw [← hg]; simp [Value.ownBlock])).imp_left (fun h => h.imp_right (fun h => by simpa using h)))
          rw [set_at] at HG
          have hbS := HG.blk (l.length + 0) (by rw [get_at]; rfl)
          have hbn := HG.blk (l.length + 2) (by rw [get_at]; rfl)
          have t0 : w'.cell? ⟨H, 0, none⟩ = some (.bool s.inner) := hbS.cell 0
          rw [hin] at t0
          have u3 : w'.cell? ⟨bn, 3, none⟩ = some (.slice p3 (s.ndAt k 0).keys.length d3) := hbn.cell 3
          have z3 := hbn.froz 3
          have lbn := hbn.lt
          have lbS := hbS.lt
          have HGG := Lib.hid HG
          clear q' grow hat hbS hbn HG
          go_wp2_with fail
          refine ⟨⟨k + 1, .slice p2 (s.ndAt k 0).pairs.length d2, .slice a' ((s.ndAt k 0).keys.length + 1) c', vn, by omega, by go_num, Lib.hid ?_⟩, by simp [intOf]; omega⟩
          have HS := HGG.out.setCell (l.length + 2) (by rw [get_at]; rfl) 3 (.slice a' ((s.ndAt k 0).keys.length + 1) c')
          rw [set_at] at HS
          rw [s.key k 0 x hin h8 hx]
          simp only [smL, ndL, List.length_append, List.length_cons, List.length_nil, Nat.zero_add] at HS ⊢
          exact HS
        | false =>
          rw [hin] at s0
          have hlm : (s.ndAt k 0).pairs.length + 1 ≤ maxLen := by have := s.keys_len k 0 hk; unfold maxLen; omega
          have hlb : ((s.ndAt k 0).pairs.length + 1) * 16 ≤ 140737488355328 := by have := s.keys_len k 0 hk; omega
          have HL := Lib.hid (And.intro hlm hlb)
          clear hlm hlb
          go_wp2_with (at_builtin; refine wpList_append_typed _ rfl _ _ _ (by rfl) 47 i1 _ 2 16 Try.underlying31 I1.out.1 I1.out.2.1 I1.out.2.2.1 I1.out.2.2.2 rfl (by decide) (.slice p2 (s.ndAt k 0).pairs.length d2) (s.ndAt k 0).pairs.length _ (by rfl) (Q2.out.fr (F := nob) (by repeat (first | exact Fr.refl _ _ | apply Fr.drew | apply Fr.alloc)) (fun _ _ _ x => x)) _ 1 [.int .i64 x, .int .i64 k] (by rfl) (RdV.block (cs := #[.int .i64 x, .int .i64 k]) (t := 47) (by repeat (first | exact Blk.new' rfl _ _ | apply Blk.drew | apply Blk.alloc)) rfl (by decide)) (by simp [Value.oneCell']) HL.out.1 HL.out.2 ?_)
          intro a' c' w' q' grow hat
          rw [← pairC_app, show (s.ndAt k 0).pairs.length + 1 = ((s.ndAt k 0).pairs ++ [(x, (k : Int))]).length from by simp] at q'
          have HG := HH.out.growRow (l.length + 3) (by rw [get_at]; rfl) (Fr.alloc (Fr.refl nob wr) _) q' grow (fun g hg => (hat g (by rw [← hg]; simp [Value.ownBlock])).imp_left (fun h => h.imp_right (fun h => by simpa using h)))
          rw [set_at] at HG
          have hbS := HG.blk (l.length + 0) (by rw [get_at]; rfl)
          have hbn := HG.blk (l.length + 2) (by rw [get_at]; rfl)
          have t0 : w'.cell? ⟨H, 0, none⟩ = some (.bool s.inner) := hbS.cell 0
          rw [hin] at t0
          have u2 : w'.cell? ⟨bn, 2, none⟩ = some (.slice p2 (s.ndAt k 0).pairs.length d2) := hbn.cell 2
          have z2 := hbn.froz 2
          have lbn := hbn.lt
          have lbS := hbS.lt
          have HGG := Lib.hid HG
          clear q' grow hat hbS hbn HG
          go_wp2_with fail
          refine ⟨⟨k + 1, .slice a' ((s.ndAt k 0).pairs.length + 1) c', .slice p3 (s.ndAt k 0).keys.length d3, vn, by omega, by go_num, Lib.hid ?_⟩, by simp [intOf]; omega⟩
          have HS := HGG.out.setCell (l.length + 2) (by rw [get_at]; rfl) 2 (.slice a' ((s.ndAt k 0).pairs.length + 1) c')
          rw [set_at] at HS
          rw [s.pair k 0 x hin h8 hx]
          simp only [smL, ndL, List.length_append, List.length_cons, List.length_nil, Nat.zero_add] at HS ⊢
          exact HS
      · go_wp2_with fail
        refine ⟨⟨k + 1, .slice p2 (s.ndAt k 0).pairs.length d2, .slice p3 (s.ndAt k 0).keys.length d3, vn, by omega, by go_num, Lib.hid ?_⟩, by simp [intOf]; omega⟩
        have e : s.ndAt (k + 1) 0 = s.ndAt k 0 := by unfold Sm.ndAt; rw [show min (k + 1) 8 = min k 8 from by omega]
        rw [e]
        exact HH.out
    · go_wp2_with fail
      have hke : k = s.keys.length := by omega
      subst hke
      clear hlt hk s0 s3 n2 n3 y2 y3 ln lS Q2 Q3
      go_loopw [56] (fun i wr => ∃ (j : Nat) (vn : Value), j ≤ s.ways.length ∧ i = .int .i64 j ∧ Hid (Heap w0 wr (l ++ smL s H bR bn (.slice a1 s.keys.length c1) (.slice a2 s.ways.length c2) (s.ndAt s.keys.length j) (.slice p2 (s.ndAt s.keys.length 0).pairs.length d2) (.slice p3 (s.ndAt s.keys.length 0).keys.length d3) vn))) (fun i _ => s.ways.length - (intOf i).toNat)
      case atStart => exact ⟨0, vn, Nat.zero_le _, rfl, HH⟩
      case round =>
        obtain ⟨j, vn, hk, rfl, HH⟩ := hrel
        have hbn := HH.out.blk (l.length + 2) (by rw [get_at]; rfl)
        have q2 := HH.out.row (l.length + 5) (by rw [get_at]; rfl)
        obtain ⟨p4, d4, rfl, _, _⟩ := q2.form
        have Q2 := Lib.hid q2
        clear q2
        have n4 : wr.cell? ⟨bn, 4, none⟩ = some (.slice p4 (s.ndAt s.keys.length j).ways.length d4) := hbn.cell 4
        have y4 := hbn.froz 4
        have ln := hbn.lt
        by_cases hlt : j < s.ways.length
        · obtain ⟨x, hx⟩ : ∃ p, s.ways[j]? = some p := ⟨_, List.getElem?_eq_getElem hlt⟩
          have R := HB.out.fr HH.out.fr (fun _ _ _ (x : nob _) => x)
          obtain ⟨b1, rfl, hc1, hat1⟩ := R.at (by omega)
          have x1 : wr.cell? (b1.add j) = some (.int .u8 x) := hat1 j _ (by rw [List.getElem?_map, hx]; rfl)
          obtain ⟨rx1, rx2⟩ := RB.out x (List.mem_of_getElem? hx)
          clear hat1 R hbn
          by_cases h8 : j < 8
          · have hlm : (s.ndAt s.keys.length j).ways.length + 1 ≤ maxLen := by have := s.ways_len s.keys.length j hk; unfold maxLen; omega
            have hlb : ((s.ndAt s.keys.length j).ways.length + 1) * 8 ≤ 140737488355328 := by have := s.ways_len s.keys.length j hk; omega
            have HL := Lib.hid (And.intro hlm hlb)
            clear hlm hlb
            go_wp2_with (at_builtin; refine wpList_append_typed _ rfl _ _ _ (by rfl) 27 i3 _ 1 8 Try.underlying26 I3.out.1 I3.out.2.1 I3.out.2.2.1 I3.out.2.2.2 rfl (by decide) (.slice p4 (s.ndAt s.keys.length j).ways.length d4) (s.ndAt s.keys.length j).ways.length _ (by rfl) (Q2.out.fr (F := nob) (by repeat (first | exact Fr.refl _ _ | apply Fr.drew | apply Fr.alloc)) (fun _ _ _ x => x)) _ 1 [.int .i64 x] (by rfl) (RdV.block (cs := #[.int .i64 x]) (t := 27) (by repeat (first | exact Blk.new' rfl _ _ | apply Blk.drew | apply Blk.alloc)) rfl (by decide)) (by simp [Value.oneCell']) HL.out.1 HL.out.2 ?_)
            intro a' c' w' q' grow hat
            rw [← intC_app, show (s.ndAt s.keys.length j).ways.length + 1 = ((s.ndAt s.keys.length j).ways ++ [x]).length from by simp] at q'
            have HG := HH.out.growRow (l.length + 5) (by rw [get_at]; rfl) (Fr.alloc (Fr.refl nob wr) _) q' grow (fun g hg => (hat g (by rw [← hg]; simp [Value.ownBlock])).imp_left (fun h => h.imp_right (fun h => by simpa using h)))
            rw [set_at] at HG
            have hbn := HG.blk (l.length + 2) (by rw [get_at]; rfl)
            have u4 : w'.cell? ⟨bn, 4, none⟩ = some (.slice p4 (s.ndAt s.keys.length j).ways.length d4) := hbn.cell 4
            have z4 := hbn.froz 4
            have lbn := hbn.lt
            have HGG := Lib.hid HG
            clear q' grow hat hbn HG
            go_wp2_with fail
            refine ⟨⟨j + 1, .slice a' ((s.ndAt s.keys.length j).ways.length + 1) c', by omega, by go_num, Lib.hid ?_⟩, by simp [intOf]; omega⟩
            have HS := HGG.out.setCell (l.length + 2) (by rw [get_at]; rfl) 4 (.slice a' ((s.ndAt s.keys.length j).ways.length + 1) c')
            rw [set_at] at HS
            rw [s.way s.keys.length j x h8 hx]
            simp only [smL, ndL, List.length_append, List.length_cons, List.length_nil, Nat.zero_add] at HS ⊢
            exact HS
          · go_wp2_with fail
            refine ⟨⟨j + 1, .slice p4 (s.ndAt s.keys.length j).ways.length d4, by omega, by go_num, Lib.hid ?_⟩, by simp [intOf]; omega⟩
            have e : s.ndAt s.keys.length (j + 1) = s.ndAt s.keys.length j := by unfold Sm.ndAt; rw [show min (j + 1) 8 = min j 8 from by omega]
            rw [e]
            exact HH.out
        · have hke : j = s.ways.length := by omega
          subst hke
          have n0 : wr.cell? ⟨bn, 0, none⟩ = some (.bool s.inner) := hbn.cell 0
          have n1 : wr.cell? ⟨bn, 1, none⟩ = some (.bool s.tagged) := hbn.cell 1
          have n2 : wr.cell? ⟨bn, 2, none⟩ = some (.slice p2 (s.ndAt s.keys.length 0).pairs.length d2) := hbn.cell 2
          have n3 : wr.cell? ⟨bn, 3, none⟩ = some (.slice p3 (s.ndAt s.keys.length 0).keys.length d3) := hbn.cell 3
          have hbR := HH.out.blk (l.length + 1) (by rw [get_at]; rfl)
          have m0 : wr.cell? ⟨bR, 0, none⟩ = some (.bool false) := hbR.cell 0
          have m1 : wr.cell? ⟨bR, 1, none⟩ = some (.bool false) := hbR.cell 1
          have m2 : wr.cell? ⟨bR, 2, none⟩ = some (.slice none 0 0) := hbR.cell 2
          have m3 : wr.cell? ⟨bR, 3, none⟩ = some (.slice none 0 0) := hbR.cell 3
          have m4 : wr.cell? ⟨bR, 4, none⟩ = some (.slice none 0 0) := hbR.cell 4
          have z0 := hbR.froz 0
          have z1 := hbR.froz 1
          have z2 := hbR.froz 2
          have z3 := hbR.froz 3
          have z4 := hbR.froz 4
          have lR := hbR.lt
          clear hbR hbn
          go_wp2_with fail
          have e2 : l ++ smL s H bR bn (.slice a1 s.keys.length c1) (.slice a2 s.ways.length c2) (s.ndAt s.keys.length s.ways.length) (.slice p2 (s.ndAt s.keys.length 0).pairs.length d2) (.slice p3 (s.ndAt s.keys.length 0).keys.length d3) (.slice p4 (s.ndAt s.keys.length s.ways.length).ways.length d4) = (l ++ [blkP H 44 #[.bool s.inner, .bool s.tagged, .slice a1 s.keys.length c1, .slice a2 s.ways.length c2], blkP bR 36 #[.bool false, .bool false, nilS, nilS, nilS]]) ++ ([blkP bn 36 #[.bool s.inner, .bool s.tagged, .slice p2 (s.ndAt s.keys.length 0).pairs.length d2, .slice p3 (s.ndAt s.keys.length 0).keys.length d3, .slice p4 (s.ndAt s.keys.length s.ways.length).ways.length d4]] ++ ndL s.nd (.slice p2 (s.ndAt s.keys.length 0).pairs.length d2) (.slice p3 (s.ndAt s.keys.length 0).keys.length d3) (.slice p4 (s.ndAt s.keys.length s.ways.length).ways.length d4)) := by rw [List.append_assoc]; rfl
          have H5 := Heap.set5 (by have := HH.out; rw [e2] at this; exact this) (l.length + 1) (by rw [get_at]; rfl) (.bool s.inner) (.bool s.tagged) (.slice p2 (s.ndAt s.keys.length 0).pairs.length d2) (.slice p3 (s.ndAt s.keys.length 0).keys.length d3) (.slice p4 (s.ndAt s.keys.length s.ways.length).ways.length d4)
          rw [set_at] at H5
          generalize (((((wr.setCell ⟨bR, 0, none⟩ (.bool s.inner)).setCell ⟨bR, 1, none⟩ (.bool s.tagged)).setCell ⟨bR, 2, none⟩ (.slice p2 (s.ndAt s.keys.length 0).pairs.length d2)).setCell ⟨bR, 3, none⟩ (.slice p3 (s.ndAt s.keys.length 0).keys.length d3)).setCell ⟨bR, 4, none⟩ (.slice p4 (s.ndAt s.keys.length s.ways.length).ways.length d4)) = W5 at H5 ⊢
          rw [List.append_assoc] at H5
          have hb5 := H5.blk (l.length + 1) (by rw [get_at]; rfl)
          have e0 : W5.cell? ⟨bR, 0, none⟩ = some (.bool s.inner) := hb5.cell 0
          have e1 : W5.cell? ⟨bR, 1, none⟩ = some (.bool s.tagged) := hb5.cell 1
          have e2 : W5.cell? ⟨bR, 2, none⟩ = some (.slice p2 (s.ndAt s.keys.length 0).pairs.length d2) := hb5.cell 2
          have e3 : W5.cell? ⟨bR, 3, none⟩ = some (.slice p3 (s.ndAt s.keys.length 0).keys.length d3) := hb5.cell 3
          have e4 : W5.cell? ⟨bR, 4, none⟩ = some (.slice p4 (s.ndAt s.keys.length s.ways.length).ways.length d4) := hb5.cell 4
          refine bodyPost_ret (v := ndV s.nd (.slice p2 (s.ndAt s.keys.length 0).pairs.length d2) (.slice p3 (s.ndAt s.keys.length 0).keys.length d3) (.slice p4 (s.ndAt s.keys.length s.ways.length).ways.length d4)) (by simp [results, Try.results17, go_sem, ndV, Sm.nd, Sm.ndAt, e0, e1, e2, e3, e4]) rfl ⟨_, _, _, rfl, ?_⟩
          exact Heap.drop3 H5
end
end Go.Proofs.Ytolkpmbmgiplcaa
