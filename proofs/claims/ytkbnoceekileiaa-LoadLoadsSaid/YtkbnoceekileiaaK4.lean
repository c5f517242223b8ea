/- The epochs: what they are in memory; what each call makes of them. No condition but the bounds of size. -/
import Derived.Test.YtkbnoceekileiaaRows
import Derived.Test.YtkbnoceekileiaaK1
import Derived.Deep.RegionWith
import Derived.Deep.DeepCutAuto
namespace Go.Proofs.Ytkbnoceekileiaa
open Go Go.RowKit
set_option maxRecDepth 100000
set_option linter.unusedVariables false
set_option linter.unusedSimpArgs false
/-- The cells of nodes and the epochs in which they went. -/
def goneC (l : List (Int × Int)) : List Value := l.flatMap fun p => [.int .i64 p.1, .int .i64 p.2]
theorem goneC_length (l : List (Int × Int)) : (goneC l).length = l.length * 2 := by
  induction l with
  | nil => rfl
  | cons p l ih => simp only [goneC, List.flatMap_cons, List.length_append, List.length_cons, List.length_nil] at ih ⊢; omega
theorem goneC_append (l : List (Int × Int)) (n a : Int) : goneC l ++ [.int .i64 n, .int .i64 a] = goneC (l ++ [(n, a)]) := by simp [goneC]
/-- The epochs at block b, their blocks among S: the epoch, what each thread announced, what each let go. -/
structure Epo (w : World) (b : Nat) (S : Nat → Prop) (now : Int) (said : List Int) (limbo : List (List (Int × Int))) : Prop where
  body : ∃ (vs vl : Value) (qs : List Value), Blk w b 142 #[.int .i64 now, vs, vl] ∧ w.ownsRow 0 2 1 vs said.length (said.map (Value.int .i64)) ∧ (∀ g, vs.ownBlock = some g → S g) ∧
    w.ownsRow 0 164 1 vl limbo.length qs ∧ (∀ g, vl.ownBlock = some g → S g) ∧
    (∀ (i : Nat) (l : List (Int × Int)), limbo[i]? = some l → ∃ q, qs[i]? = some q ∧ QRow w 172 2 q l.length (goneC l) ∧ ∀ g, q.ownBlock = some g → S g ∧ ∃ c, Blk w g 172 c) ∧
    (∀ (i j : Nat) (q q' : Value) (g : Nat), qs[i]? = some q → qs[j]? = some q' → q.ownBlock = some g → q'.ownBlock = some g → i = j)
  here : S b
  lt : ∀ k, S k → k < w.heap.size
  same : said.length = limbo.length
  few : said.length ≤ 64
theorem Epo.fr {S F : Nat → Prop} {w w' : World} {b : Nat} {now : Int} {said : List Int} {limbo : List (List (Int × Int))} (h : Epo w b S now said limbo) (hf : Fr F w w') (hn : ∀ k, S k → ¬ F k) : Epo w' b S now said limbo := by
  obtain ⟨⟨vs, vl, qs, h1, h2, h3, h4, h5, h6, h7⟩, hh, hl, hs, hw⟩ := h
  refine ⟨⟨vs, vl, qs, h1.fr hf (hn _ hh), ownsRow_fr h2 hf (fun g hg => hn g (h3 g hg)), h3, ownsRow_fr h4 hf (fun g hg => hn g (h5 g hg)), h5, fun i l hi => ?_, h7⟩, hh, fun k hk => Nat.lt_of_lt_of_le (hl k hk) hf.size, hs, hw⟩
  obtain ⟨q, hq, hr, hg⟩ := h6 i l hi
  refine ⟨q, hq, hr.fr hf (fun g hx _ => hn g (hg g hx).1), fun g hx => ⟨(hg g hx).1, ?_⟩⟩
  obtain ⟨c, hc⟩ := (hg g hx).2
  exact ⟨c, hc.fr hf (hn g (hg g hx).1)⟩
theorem Epo.more {S S' : Nat → Prop} {w : World} {b : Nat} {now : Int} {said : List Int} {limbo : List (List (Int × Int))} (h : Epo w b S now said limbo) (hs : ∀ k, S k → S' k) (hl : ∀ k, S' k → k < w.heap.size) : Epo w b S' now said limbo := by
  obtain ⟨⟨vs, vl, qs, h1, h2, h3, h4, h5, h6, h7⟩, hh, _, hsm, hw⟩ := h
  refine ⟨⟨vs, vl, qs, h1, h2, fun g hg => hs g (h3 g hg), h4, fun g hg => hs g (h5 g hg), fun i l hi => ?_, h7⟩, hs _ hh, hl, hsm, hw⟩
  obtain ⟨q, hq, hr, hg⟩ := h6 i l hi
  exact ⟨q, hq, hr, fun g hx => ⟨hs g (hg g hx).1, (hg g hx).2⟩⟩
/-- Is there such a thread? -/
def isT (t : Int) (n : Nat) : Bool := decide (0 ≤ t ∧ t < (n : Int))
theorem isT_false {t : Int} {n : Nat} (h : isT t n = false) : ¬ (0 ≤ t ∧ t < (n : Int)) := by simpa [isT] using h
theorem isT_true {t : Int} {n : Nat} (h : isT t n = true) : 0 ≤ t ∧ t < (n : Int) := by simpa [isT] using h
end Go.Proofs.Ytkbnoceekileiaa
namespace Go.Proofs.Ytkbnoceekileiaa
open Go Go.RowKit
set_option maxRecDepth 100000
set_option linter.unusedVariables false
set_option linter.unusedSimpArgs false
/-- An owned row in which one cell is another one. -/
theorem ownsRow_set {w : World} {B : Nat} {t : TypeId} {g n cap : Nat} {us : List Value} (h : w.ownsRow B t 1 (.slice (some ⟨g, 0, none⟩) n cap) n us) (i : Nat) (hi : i < n) (x : Value) :
    (w.setCell ⟨g, i, none⟩ x).ownsRow B t 1 (.slice (some ⟨g, 0, none⟩) n cap) n (us.set i x) := by
  refine ⟨by rw [List.length_set]; exact h.1, ?_⟩
  rcases h.2 with ⟨h0, _⟩ | ⟨g', cap', cur, hv, hb, hh, hc, hm, hs, ht⟩
  · cases h0
  · simp only [Value.slice.injEq, Option.some.injEq, Addr.mk.injEq] at hv
    obtain ⟨⟨rfl, _⟩, _, rfl⟩ := hv
    have hB : Blk w g t cur := hh
    refine .inr ⟨g, cap, cur.setIfInBounds i x, rfl, hb, hB.set i x, hc, hm, by simpa using hs, ?_⟩
    rw [← ht, Array.toList_setIfInBounds, List.take_set]
theorem ownsRow_get {w : World} {B : Nat} {t : TypeId} {g n cap : Nat} {us : List Value} (h : w.ownsRow B t 1 (.slice (some ⟨g, 0, none⟩) n cap) n us) (i : Nat) (u : Value) (hu : us[i]? = some u) :
    w.cell? ⟨g, i, none⟩ = some u ∧ w.frozen? ⟨g, i, none⟩ = false ∧ i < n := by
  rcases row_cells h with ⟨h0, _, _⟩ | ⟨g', cap', cur, hv, _, hg, _, _, _, hl, hj⟩
  · cases h0
  · simp only [Value.slice.injEq, Option.some.injEq, Addr.mk.injEq] at hv
    obtain ⟨⟨rfl, _⟩, _, rfl⟩ := hv
    have hi : i < n := by
      have := (List.getElem?_eq_some_iff.1 hu).1
      omega
    exact ⟨by rw [hg.cell, hj i hi]; exact hu, hg.froz i, hi⟩
theorem ownsRow_form {w : World} {B : Nat} {t : TypeId} {v : Value} {n : Nat} {us : List Value} (h : w.ownsRow B t 1 v n us) (hn : 0 < n) : ∃ g cap, v = .slice (some ⟨g, 0, none⟩) n cap := by
  rcases row_cells h with ⟨_, h0, _⟩ | ⟨g, cap, cur, hv, _⟩
  · omega
  · exact ⟨g, cap, hv⟩
/-- One thread's nodes are others. -/
theorem Epo_put {S : Nat → Prop} {w w1 : World} {b : Nat} {now : Int} {said : List Int} {limbo : List (List (Int × Int))} {vs : Value} {gl cl : Nat} {qs : List Value} (h1 : Blk w b 142 #[.int .i64 now, vs, .slice (some ⟨gl, 0, none⟩) limbo.length cl]) (h2 : w.ownsRow 0 2 1 vs said.length (said.map (Value.int .i64))) (h3 : ∀ g, vs.ownBlock = some g → S g)
    (h4 : w.ownsRow 0 164 1 (.slice (some ⟨gl, 0, none⟩) limbo.length cl) limbo.length qs) (h5 : ∀ g, (Value.slice (some ⟨gl, 0, none⟩) limbo.length cl).ownBlock = some g → S g)
    (h6 : ∀ (i : Nat) (l : List (Int × Int)), limbo[i]? = some l → ∃ q, qs[i]? = some q ∧ QRow w 172 2 q l.length (goneC l) ∧ ∀ g, q.ownBlock = some g → S g ∧ ∃ c, Blk w g 172 c)
    (h7 : ∀ (i j : Nat) (q q' : Value) (g : Nat), qs[i]? = some q → qs[j]? = some q' → q.ownBlock = some g → q'.ownBlock = some g → i = j)
    (hh : S b) (hl : ∀ k, S k → k < w.heap.size) (hs : said.length = limbo.length) (hw : said.length ≤ 64)
    {i : Nat} {q q' : Value} {l' : List (Int × Int)} (hi : i < limbo.length) (hq : qs[i]? = some q) (Fg : Fr (fun k => q.ownBlock = some k) w w1) (hq' : QRow w1 172 2 q' l'.length (goneC l')) (hb' : ∀ g, q'.ownBlock = some g → (q.ownBlock = some g ∨ w.heap.size ≤ g) ∧ ∃ c, Blk w1 g 172 c) :
    Fr S w (w1.setCell ⟨gl, i, none⟩ q') ∧ Epo (w1.setCell ⟨gl, i, none⟩ q') b (wide S w (w1.setCell ⟨gl, i, none⟩ q')) now said (limbo.set i l') := by
  obtain ⟨_, cg, hg⟩ := ownsRow_block h4 (g := gl) rfl
  have hlq : qs.length = limbo.length := by have := h4.1; simpa using this
  obtain ⟨l0, hl0⟩ : ∃ l0, limbo[i]? = some l0 := ⟨_, List.getElem?_eq_getElem hi⟩
  obtain ⟨qq, hqq, hr0, hg0⟩ := h6 i l0 hl0
  obtain rfl : qq = q := by rw [hq] at hqq; simpa using hqq.symm
  have nb : ∀ k, qq.ownBlock = some k → ∀ (T : TypeId) (c : Array Value) (x : Nat), Blk w x T c → T ≠ 172 → x ≠ k := fun k hk T c x hx hT => by
    obtain ⟨_, c', hc'⟩ := hg0 k hk
    exact hx.ne hc' hT
  have O4 : w1.ownsRow 0 164 1 (.slice (some ⟨gl, 0, none⟩) limbo.length cl) limbo.length qs := ownsRow_fr h4 Fg (fun k hk hx => by
    obtain ⟨_, c, hc⟩ := ownsRow_block h4 hk; exact nb k hx _ _ _ hc (by decide) rfl)
  have hg1 : Blk w1 gl 164 cg := hg.fr Fg (fun hx => nb gl hx _ _ _ hg (by decide) rfl)
  have Fs := (Fr.refl (fun k => k = gl) w1).setCell (p := ⟨gl, i, none⟩) (.inl rfl) q'
  have O5 := ownsRow_set O4 i hi q'
  generalize hw' : w1.setCell ⟨gl, i, none⟩ q' = w' at *
  have s' : w'.heap.size = w1.heap.size := by rw [← hw']; simp [World.setCell]
  have F' : Fr (fun k => k = gl ∨ qq.ownBlock = some k) w w' := (Fg.mono (fun _ _ x => .inr x)).trans Fs (fun k _ hk => .inl hk)
  have hgS : S gl := h5 gl rfl
  refine ⟨F'.mono (fun k _ hk => ?_), ⟨⟨vs, .slice (some ⟨gl, 0, none⟩) limbo.length cl, qs.set i q', ?_, ?_, fun g hg => .inl (h3 g hg), ?_, ?_, ?_, ?_⟩, .inl hh, ?_, by rw [List.length_set]; exact hs, hw⟩⟩
  · rcases hk with rfl | hk
    · exact hgS
    · exact (hg0 k hk).1
  · exact h1.fr F' (fun hx => by rcases hx with hx | hx; exact h1.ne hg (by decide) hx; exact nb _ hx _ _ _ h1 (by decide) rfl)
  · exact ownsRow_fr h2 F' (fun k hk hx => by
      obtain ⟨_, c, hc⟩ := ownsRow_block h2 hk
      rcases hx with hx | hx
      · exact hc.ne hg (by decide) hx
      · exact nb _ hx _ _ _ hc (by decide) rfl)
  · rw [List.length_set]; exact O5
  · exact fun g hg => .inl (h5 g hg)
  · intro j l hj
    by_cases hij : i = j
    · subst hij
      rw [List.getElem?_set_self hi] at hj
      simp only [Option.some.injEq] at hj
      subst hj
      refine ⟨q', List.getElem?_set_self (by omega), hq'.fr Fs (fun k _ hc hx => by obtain ⟨c, hc⟩ := hc; exact hc.ne hg1 (by decide) hx), fun g hg2 => ?_⟩
      obtain ⟨hx, c, hc⟩ := hb' g hg2
      refine ⟨?_, c, hc.fr Fs (fun hx => hc.ne hg1 (by decide) hx)⟩
      rcases hx with hx | hx
      · exact .inl (hg0 g hx).1
      · exact .inr ⟨hx, by rw [s']; exact hc.lt⟩
    · rw [List.getElem?_set_ne hij] at hj
      obtain ⟨q2, hq2, hr2, hg2⟩ := h6 j l hj
      have no : ∀ k, q2.ownBlock = some k → ¬ (k = gl ∨ qq.ownBlock = some k) := fun k hk hx => by
        rcases hx with hx | hx
        · obtain ⟨_, c, hc⟩ := hg2 k hk; exact hc.ne hg (by decide) hx
        · exact hij (h7 i j qq q2 k hq hq2 hx hk)
      refine ⟨q2, by rw [List.getElem?_set_ne hij]; exact hq2, hr2.fr F' (fun k hk _ => no k hk), fun g hx => ⟨.inl (hg2 g hx).1, ?_⟩⟩
      obtain ⟨_, c, hc⟩ := hg2 g hx
      exact ⟨c, hc.fr F' (no g hx)⟩
  · intro i1 j1 q1 q2 g e1 e2 b1 b2
    have old : ∀ j q2 k, j ≠ i → qs[j]? = some q2 → q2.ownBlock = some k → q'.ownBlock = some k → False := fun j q2 k hj hq2 hk hk' => by
      have hjl : j < limbo.length := by rw [← hlq]; exact (List.getElem?_eq_some_iff.1 hq2).1
      obtain ⟨q3, hq3, _, hg3⟩ := h6 j _ (List.getElem?_eq_getElem hjl)
      obtain rfl : q3 = q2 := by rw [hq2] at hq3; simpa using hq3.symm
      rcases (hb' k hk').1 with hx | hx
      · exact hj (h7 j i q3 qq k hq2 hq hk hx)
      · have := hl k (hg3 k hk).1; omega
    by_cases ha : i = i1
    · by_cases hb : i = j1
      · omega
      · subst ha
        rw [List.getElem?_set_self (by omega)] at e1
        simp only [Option.some.injEq] at e1
        subst e1
        rw [List.getElem?_set_ne hb] at e2
        exact (old j1 q2 g (fun x => hb x.symm) e2 b2 b1).elim
    · rw [List.getElem?_set_ne ha] at e1
      by_cases hb : i = j1
      · subst hb
        rw [List.getElem?_set_self (by omega)] at e2
        simp only [Option.some.injEq] at e2
        subst e2
        exact (old i1 q1 g (fun x => ha x.symm) e1 b1 b2).elim
      · rw [List.getElem?_set_ne hb] at e2
        exact h7 i1 j1 q1 q2 g e1 e2 b1 b2
  · rintro k (hk | hk)
    · exact Nat.lt_of_lt_of_le (hl k hk) F'.size
    · exact hk.2
end Go.Proofs.Ytkbnoceekileiaa
namespace Go.Proofs.Ytkbnoceekileiaa
open Go Go.RowKit
set_option maxRecDepth 100000
set_option linter.unusedVariables false
set_option linter.unusedSimpArgs false
theorem info_gone : (Try.prog.info? 172).map (fun i => (i.zero, i.size, i.bytes)) = some (some (.agg #[.int .i64 0, .int .i64 0]), 2, 16) := by kernel_rfl
/-- May a node be freed? -/
def ripe (at_ now : Int) : Bool := decide (at_ ≤ now ∧ 3 ≤ now - at_)
end Go.Proofs.Ytkbnoceekileiaa
namespace Go.Proofs.Ytkbnoceekileiaa
open Go Go.RowKit
set_option maxRecDepth 100000
set_option linter.unusedVariables false
set_option linter.unusedSimpArgs false
theorem u64_gap {n a : Int} (hn0 : -9223372036854775808 ≤ n) (hn1 : n ≤ 9223372036854775807) (ha0 : -9223372036854775808 ≤ a) (ha1 : a ≤ 9223372036854775807) (h : a ≤ n) :
    IntKind.u64.wrap (IntKind.u64.wrap n - IntKind.u64.wrap a) = n - a := by
  simp [IntKind.wrap, IntKind.signed, IntKind.bits]
  omega
end Go.Proofs.Ytkbnoceekileiaa
namespace Go.Proofs.Ytkbnoceekileiaa
open Go Go.RowKit
set_option maxRecDepth 100000
set_option linter.unusedVariables false
set_option linter.unusedSimpArgs false
/-- How many wait. -/
def waits (limbo : List (List (Int × Int))) : Nat := (limbo.map List.length).sum
theorem waits_take (limbo : List (List (Int × Int))) (k : Nat) (l : List (Int × Int)) (h : limbo[k]? = some l) : waits (limbo.take (k + 1)) = waits (limbo.take k) + l.length := by
  obtain ⟨hk, rfl⟩ := List.getElem?_eq_some_iff.1 h
  unfold waits
  rw [List.take_succ_eq_append_getElem hk, List.map_append, List.sum_append]
  simp only [List.map_cons, List.map_nil, List.sum_cons, List.sum_nil]
  omega
theorem waits_le (limbo : List (List (Int × Int))) (k : Nat) : waits (limbo.take k) ≤ waits limbo := by
  unfold waits
  have : (limbo.map List.length).sum = ((limbo.take k).map List.length).sum + ((limbo.drop k).map List.length).sum := by
    rw [← List.sum_append, ← List.map_append, List.take_append_drop]
  omega
theorem form_own {w : World} {B : Nat} {t : TypeId} {v : Value} {n : Nat} {us : List Value} (h : w.ownsRow B t 1 v n us) : ∃ a c, v = .slice a n c := by
  rcases row_cells h with ⟨rfl, rfl, _⟩ | ⟨g, cap, cur, rfl, _⟩
  · exact ⟨none, 0, rfl⟩
  · exact ⟨_, _, rfl⟩
theorem ep_info_i64 : (Try.prog.info? 2).map (fun i => (i.zero, i.size, i.bytes)) = some (some (.int .i64 0), 1, 8) := by kernel_rfl
theorem info_gones : (Try.prog.info? 164).map (fun i => (i.zero, i.size, i.bytes)) = some (some (.slice none 0 0), 1, 24) := by kernel_rfl
/-- How many threads there are. -/
def many (n : Int) : Nat := (min (max n 0) 64).toNat
set_option maxHeartbeats 1600000 in
set_option maxRecDepth 100000 in
theorem EpNew_calls (n : Int) (w : World) : Calls Try.prog 52 #[.int .i64 n] w fun e w' => ∃ b, e = .returned (.pointer (some ⟨b, 0, none⟩)) ∧ Fr nob w w' ∧ Epo w' b (wide nob w w') 0 (List.replicate (many n) (-1)) (List.replicate (many n) []) := by
  obtain ⟨i0, hi, hz0, hz1, hz2⟩ := info_parts ep_info_i64
  obtain ⟨j0, hj, jz0, jz1, jz2⟩ := info_parts info_gones
  go_enter Try.func52, Try.ntmps52
  go_upto_region 1 with fail
  go_cut [0] (fun s0 wx => s0 = .int .i64 (many n) ∧ wx = w)
  case first =>
    go_wp2_with fail
    all_goals
      go_meet
      refine ⟨?_, rfl⟩
      unfold many
      first | rw [show ((min (max n 0) 64).toNat : Int) = 0 from by omega] | rw [show ((min (max n 0) 64).toNat : Int) = 64 from by omega] | rw [show ((min (max n 0) 64).toNat : Int) = n from by omega]
  case rest =>
    obtain ⟨rfl, hw⟩ := hcut
    have hw := hw.symm
    subst hw
    have hN : many n ≤ 64 := by unfold many; omega
    generalize hNN : many n = N at *
    have HN := Lib.hid hNN
    clear hNN
    have hlm : N ≤ maxLen := by unfold maxLen; omega
    have hb2 : j0.bytes * N ≤ 281474976710656 := by rw [jz2]; omega
    go_wp2_with (at_make; refine wpList_make_full _ rfl _ _ 140 rfl w.heap.size 164 j0 (.slice none 0 0) 1 Try.underlying140 hj jz0 jz1 _ _ _ _ N rfl rfl rfl rfl hb2 hlm (Nat.le_refl _) ?_)
    intro w1 hown hgrow
    rw [toList_madeCells_one] at hown
    have F1 : Fr nob w w1 := Fr.of_grown hgrow
    have lw : w.heap.size < w1.heap.size := by
      rcases ownsRow_block hown (g := w.heap.size) rfl with ⟨_, c, hc⟩
      exact hc.lt
    have HB := Lib.hid (Blk.new w1 142 #[.int .i64 0, .slice none 0 0, .slice (some ⟨w.heap.size, 0, none⟩) N N])
    have HO := Lib.hid hown
    have HF := Lib.hid F1
    clear hown hgrow F1 hb2 hw
    go_wp2_with fail
    go_loopw [12] (fun i wr => ∃ (k : Nat) (vs : Value), k ≤ N ∧ i = .int .i64 k ∧ Fr nob w wr ∧ Blk wr w1.heap.size 142 #[.int .i64 0, vs, .slice (some ⟨w.heap.size, 0, none⟩) N N] ∧
      wr.ownsRow w.heap.size 2 1 vs k (List.replicate k (.int .i64 (-1))) ∧ wr.ownsRow w.heap.size 164 1 (.slice (some ⟨w.heap.size, 0, none⟩) N N) N (List.replicate N (.slice none 0 0))) (fun i _ => N - (intOf i).toNat)
    case atStart => exact ⟨0, _, Nat.zero_le _, rfl, HF.out.alloc _, HB.out, ⟨rfl, .inl ⟨rfl, rfl⟩⟩, ownsRow_fr HO.out ((Fr.refl nob _).alloc _) (fun _ _ x => x)⟩
    case round =>
      obtain ⟨k, vs, hk, rfl, F2, B2, O2, O3⟩ := hrel
      obtain ⟨av, cv, rfl⟩ := form_own O2
      have c1 : wr.cell? ⟨w1.heap.size, 1, none⟩ = some (.slice av k cv) := B2.cell 1
      have lb := B2.lt
      by_cases hlt : k < N
      · have hlm : k + 1 ≤ maxLen := by unfold maxLen; omega
        have hlb : (k + 1) * 8 ≤ 140737488355328 := by omega
        have hnt : (Value.slice av k cv).ownBlock ≠ some w1.heap.size := fun hx => by
          obtain ⟨_, c, hc⟩ := ownsRow_block O2 hx
          exact hc.ne B2 (by decide) rfl
        have lww : w.heap.size ≤ wr.heap.size := F2.size
        go_wp2_with (at_builtin; refine wpList_append_lies _ rfl _ _ _ rfl w.heap.size 2 i0 (.int .i64 0) 1 8 Try.underlying22 hi hz0 hz1 hz2 rfl (by decide) (.slice av k cv) k (List.replicate k (.int .i64 (-1))) rfl (O2.alloc _) ⟨wr.heap.size, 0, none⟩ 1 1 [.int .i64 (-1)] rfl rfl (World.news_of_block (cs := #[.int .i64 (-1)]) (t := 2) (fr := (0, 0)) (by exact Blk.new _ _ _)) (by simp [Value.oneCell']) (by decide) hlm hlb (by simp; omega) (wr.heap.size + 1) (by simp) ?_)
        intro g cap w3 hown hgrow hat hlt3
        have B3 := (B2.alloc (.cells #[.int .i64 (-1)] 2)).grown hgrow hnt
        have y0 : w3.cell? ⟨w1.heap.size, 1, none⟩ = some (.slice av k cv) := B3.cell 1
        have y1 : w3.frozen? ⟨w1.heap.size, 1, none⟩ = false := B3.froz 1
        have F3 : Fr (fun j => (Value.slice av k cv).ownBlock = some j) wr w3 := ((Fr.refl _ wr).alloc _).grown hgrow (fun j hj => .inl hj)
        have Fs := (Fr.refl (fun j => j = w1.heap.size) w3).setCell (p := ⟨w1.heap.size, 1, none⟩) (.inl rfl) (.slice (some ⟨g, 0, none⟩) (k + 1) cap)
        have R1 : Fr nob w (w3.setCell ⟨w1.heap.size, 1, none⟩ (.slice (some ⟨g, 0, none⟩) (k + 1) cap)) := (F2.trans F3 (fun j hj hx => by have := (ownsRow_block O2 hx).1; omega)).trans Fs (fun j hj hx => by omega)
        have R2 := B3.set 1 (.slice (some ⟨g, 0, none⟩) (k + 1) cap)
        have R3 : (w3.setCell ⟨w1.heap.size, 1, none⟩ (.slice (some ⟨g, 0, none⟩) (k + 1) cap)).ownsRow w.heap.size 2 1 (.slice (some ⟨g, 0, none⟩) (k + 1) cap) (k + 1) (List.replicate (k + 1) (.int .i64 (-1))) := by
          rw [List.replicate_succ']
          exact ownsRow_fr hown Fs (fun j hj hx => by obtain ⟨_, c, hc⟩ := ownsRow_block hown hj; exact hc.ne B3 (by decide) hx)
        have R4 : (w3.setCell ⟨w1.heap.size, 1, none⟩ (.slice (some ⟨g, 0, none⟩) (k + 1) cap)).ownsRow w.heap.size 164 1 (.slice (some ⟨w.heap.size, 0, none⟩) N N) N (List.replicate N (.slice none 0 0)) := by
          refine ownsRow_fr (ownsRow_fr O3 F3 (fun j hj hx => ?_)) Fs (fun j hj hx => ?_)
          · obtain ⟨_, c, hc⟩ := ownsRow_block O2 hx
            obtain ⟨_, c', hc'⟩ := ownsRow_block O3 hj
            exact hc.ne hc' (by decide) rfl
          · simp [Value.ownBlock] at hj; omega
        have RR := Lib.hid (And.intro R1 (And.intro R2 (And.intro R3 R4)))
        clear R1 R2 R3 R4 F3 Fs hown hgrow hat B3 O2 O3 B2 F2 c1
        go_wp2
        obtain ⟨R1, R2, R3, R4⟩ := RR.out
        exact ⟨⟨k + 1, _, by omega, by go_num, R1, R2, R3, R4⟩, by simp [intOf]; omega⟩
      · obtain rfl : k = N := by omega
        have hE : Epo wr w1.heap.size (wide nob w wr) 0 (List.replicate k (-1)) (List.replicate k []) := by
          refine ⟨⟨.slice av k cv, .slice (some ⟨w.heap.size, 0, none⟩) k k, List.replicate k (.slice none 0 0), B2, ?_, ?_, ?_, ?_, ?_, ?_⟩, .inr ⟨Nat.le_of_lt lw, lb⟩, ?_, by simp, by simp; exact hN⟩
          · rw [List.length_replicate, List.map_replicate]; exact ownsRow_base O2 (Nat.zero_le _)
          · intro g hg
            obtain ⟨hx, c, hc⟩ := ownsRow_block O2 hg
            exact .inr ⟨hx, hc.lt⟩
          · rw [List.length_replicate]; exact ownsRow_base O3 (Nat.zero_le _)
          · intro g hg
            obtain ⟨hx, c, hc⟩ := ownsRow_block O3 hg
            exact .inr ⟨hx, hc.lt⟩
          · intro i l hi'
            have hik : i < k := by
              have := (List.getElem?_eq_some_iff.1 hi').1
              simpa using this
            simp [List.getElem?_replicate, hik] at hi'
            subst hi'
            exact ⟨.slice none 0 0, by simp [hik], QRow.nil _ _ _, fun g hg => by simp [Value.ownBlock] at hg⟩
          · intro i j q q' g e1 e2 b1 b2
            have : q = .slice none 0 0 := by
              rw [List.getElem?_replicate] at e1
              split at e1
              · simpa using e1.symm
              · cases e1
            subst this
            simp [Value.ownBlock] at b1
          · rintro j (hj | hj)
            · exact hj.elim
            · exact hj.2
        have EE := Lib.hid hE
        clear hE O2 O3 B2 c1 hk hlt
        go_wp2
        go_ret
        exact ⟨_, rfl, F2, by rw [HN.out]; exact EE.out⟩
end Go.Proofs.Ytkbnoceekileiaa
namespace Go.Proofs.Ytkbnoceekileiaa
open Go Go.RowKit
set_option maxRecDepth 100000
set_option linter.unusedVariables false
set_option linter.unusedSimpArgs false
theorem set_same {α : Type} (l : List α) (i : Nat) (x : α) (h : l[i]? = some x) : l.set i x = l := by
  obtain ⟨hi, rfl⟩ := List.getElem?_eq_some_iff.1 h
  exact List.set_getElem_self hi
theorem Epo.wider {S F : Nat → Prop} {w w' : World} {b : Nat} {now : Int} {said : List Int} {limbo : List (List (Int × Int))} (h : Epo w b S now said limbo) (hf : Fr F w w') (hn : ∀ k, S k → ¬ F k) : Epo w' b (wide S w w') now said limbo :=
  (h.fr hf hn).more (fun k hk => .inl hk) (fun k hk => by
    rcases hk with hk | hk
    · exact (h.fr hf hn).lt k hk
    · exact hk.2)
/-- Epochs: the epoch, what each announced, what each let go. -/
structure Ep where
  now : Int
  said : List Int
  limbo : List (List (Int × Int))
def epoP (b : Nat) (s : Ep) : Piece := ⟨fun w S => Epo w b S s.now s.said s.limbo, fun h hf hn _ => h.fr hf hn⟩
/-- What Take, and Ready, tell and leave. -/
def takeEp (t n : Int) (s : Ep) : Int × Ep :=
  if isT t s.said.length = true then
    match s.limbo[t.toNat]? with
    | some ((node, a) :: l) => if ripe a n = true then (node, { s with limbo := s.limbo.set t.toNat l }) else (0, s)
    | _ => (0, s)
  else (0, s)
def leaveEp (t node a : Int) (s : Ep) : Ep := if isT t s.said.length = true then { s with limbo := s.limbo.set t.toNat (s.limbo.getD t.toNat [] ++ [(node, a)]) } else s
def sayEp (t n : Int) (s : Ep) : Ep := { s with said := if isT t s.said.length = true then s.said.set t.toNat n else s.said }
def swapEp (n : Int) (s : Ep) : Ep := { s with now := if s.now = n then s.now + 1 else s.now }
def saidEp (t : Int) (s : Ep) : Int := if isT t s.said.length = true then s.said.getD t.toNat 0 else -1
/-- What is so of all. -/
structure OkEp (s : Ep) (k : Nat) : Prop where
  nb : 0 ≤ s.now ∧ s.now ≤ k
  ats : ∀ l ∈ s.limbo, ∀ p ∈ l, -9223372036854775808 ≤ p.2 ∧ p.2 ≤ 9223372036854775807
  few : waits s.limbo ≤ k
  same : s.said.length = s.limbo.length
theorem waits_set (limbo : List (List (Int × Int))) (i : Nat) (l l' : List (Int × Int)) (h : limbo[i]? = some l) : waits (limbo.set i l') + l.length = waits limbo + l'.length := by
  induction limbo generalizing i with
  | nil => simp at h
  | cons x xs ih =>
    cases i with
    | zero =>
      simp at h; subst h
      simp [waits]; omega
    | succ i =>
      simp at h
      have := ih i h
      simp [waits] at this ⊢; omega
theorem waits_get (limbo : List (List (Int × Int))) (i : Nat) (l : List (Int × Int)) (h : limbo[i]? = some l) : l.length ≤ waits limbo := by
  have := waits_set limbo i l [] h
  simp at this; omega
theorem OkEp.more {s : Ep} {k k' : Nat} (h : OkEp s k) (hk : k ≤ k') : OkEp s k' := ⟨⟨h.nb.1, by have := h.nb.2; omega⟩, h.ats, by have := h.few; omega, h.same⟩
theorem isT_get {s : Ep} {k : Nat} (h : OkEp s k) {t : Int} (ht : isT t s.said.length = true) : ∃ l, s.limbo[t.toNat]? = some l := by
  obtain ⟨t0, t1⟩ := isT_true ht
  have := h.same
  exact ⟨_, List.getElem?_eq_getElem (by omega)⟩
theorem OkEp.take {s : Ep} {k : Nat} (h : OkEp s k) (t n : Int) : OkEp (takeEp t n s).2 k ∧ (takeEp t n s).2.said.length = s.said.length := by
  unfold takeEp
  split
  · split
    · rename_i node a l hl
      split
      · refine ⟨⟨h.nb, fun x hx p hp => ?_, ?_, by simpa using h.same⟩, rfl⟩
        · rcases List.mem_or_eq_of_mem_set hx with hx | rfl
          · exact h.ats x hx p hp
          · exact h.ats _ (List.mem_of_getElem? hl) p (List.mem_cons_of_mem _ hp)
        · have := waits_set s.limbo t.toNat _ l hl
          have := h.few
          simp only [List.length_cons] at *
          show waits (s.limbo.set t.toNat l) ≤ k
          omega
      · exact ⟨h, rfl⟩
    · exact ⟨h, rfl⟩
  · exact ⟨h, rfl⟩
theorem OkEp.leave {s : Ep} {k : Nat} (h : OkEp s k) (t node a : Int) (ha : -9223372036854775808 ≤ a ∧ a ≤ 9223372036854775807) : OkEp (leaveEp t node a s) (k + 1) ∧ (leaveEp t node a s).said.length = s.said.length := by
  unfold leaveEp
  split
  · rename_i ht
    obtain ⟨l, hl⟩ := isT_get h ht
    have hg : s.limbo.getD t.toNat [] = l := by simp [List.getD, hl]
    rw [hg]
    refine ⟨⟨⟨h.nb.1, by have := h.nb.2; show s.now ≤ _; omega⟩, fun x hx p hp => ?_, ?_, by simpa using h.same⟩, rfl⟩
    · rcases List.mem_or_eq_of_mem_set hx with hx | rfl
      · exact h.ats x hx p hp
      · rcases List.mem_append.1 hp with hp | hp
        · exact h.ats _ (List.mem_of_getElem? hl) p hp
        · simp at hp; subst hp; exact ha
    · have := waits_set s.limbo t.toNat _ (l ++ [(node, a)]) hl
      have := h.few
      simp only [List.length_append, List.length_cons, List.length_nil] at *
      show waits (s.limbo.set t.toNat _) ≤ _
      omega
  · exact ⟨h.more (Nat.le_succ k), rfl⟩
theorem OkEp.say {s : Ep} {k : Nat} (h : OkEp s k) (t n : Int) : OkEp (sayEp t n s) k ∧ (sayEp t n s).said.length = s.said.length := by
  have e : (sayEp t n s).said.length = s.said.length := by unfold sayEp; dsimp only; split <;> simp
  exact ⟨⟨h.nb, h.ats, h.few, e.trans h.same⟩, e⟩
theorem OkEp.swap {s : Ep} {k : Nat} (h : OkEp s k) (n : Int) : OkEp (swapEp n s) (k + 1) := by
  refine ⟨?_, h.ats, by have := h.few; show waits s.limbo ≤ _; omega, h.same⟩
  have := h.nb
  unfold swapEp; dsimp only
  split <;> omega
section
variable {w0 w : World} {l : List Piece} {b : Nat} {s : Ep} {k : Nat}
end
end Go.Proofs.Ytkbnoceekileiaa
