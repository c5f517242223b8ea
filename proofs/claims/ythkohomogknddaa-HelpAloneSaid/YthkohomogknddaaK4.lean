/- The epochs: what they are in memory; what each call makes of them. No condition but the bounds of size. -/
import Derived.Test.YthkohomogknddaaRows
import Derived.Test.YthkohomogknddaaK1
import Derived.Deep.RegionWith
import Derived.Deep.DeepCutAuto
namespace Go.Proofs.Ythkohomogknddaa
open Go Go.RowKit
set_option maxRecDepth 100000
set_option linter.unusedVariables false
set_option linter.unusedSimpArgs false
/-- The cells of nodes and the epochs in which they went. -/
def goneC (l : List (Int × Int)) : List Value := l.flatMap fun p => [.int .i64 p.1, .int .i64 p.2]
theorem goneC_length (l : List (Int × Int)) : (goneC l).length = l.length * 2 := by
  induction l with
  | nil => rfl
  | cons p l ih => simp only [goneC, List.flatMap_cons, List.length_append, List.length_cons, List.length_nil] at ih ⊢; omega
theorem goneC_append (l : List (Int × Int)) (n a : Int) : goneC l ++ [.int .i64 n, .int .i64 a] = goneC (l ++ [(n, a)]) := by simp [goneC]
/-- The epochs at block b, their blocks among S: the epoch, what each thread announced, what each let go. -/
structure Epo (w : World) (b : Nat) (S : Nat → Prop) (now : Int) (said : List Int) (limbo : List (List (Int × Int))) : Prop where
  body : ∃ (vs vl : Value) (qs : List Value), Blk w b 102 #[.int .i64 now, vs, vl] ∧ w.ownsRow 0 2 1 vs said.length (said.map (Value.int .i64)) ∧ (∀ g, vs.ownBlock = some g → S g) ∧
    w.ownsRow 0 123 1 vl limbo.length qs ∧ (∀ g, vl.ownBlock = some g → S g) ∧
    (∀ (i : Nat) (l : List (Int × Int)), limbo[i]? = some l → ∃ q, qs[i]? = some q ∧ QRow w 125 2 q l.length (goneC l) ∧ ∀ g, q.ownBlock = some g → S g ∧ ∃ c, Blk w g 125 c) ∧
    (∀ (i j : Nat) (q q' : Value) (g : Nat), qs[i]? = some q → qs[j]? = some q' → q.ownBlock = some g → q'.ownBlock = some g → i = j)
  here : S b
  lt : ∀ k, S k → k < w.heap.size
  same : said.length = limbo.length
  few : said.length ≤ 64
theorem Epo.fr {S F : Nat → Prop} {w w' : World} {b : Nat} {now : Int} {said : List Int} {limbo : List (List (Int × Int))} (h : Epo w b S now said limbo) (hf : Fr F w w') (hn : ∀ k, S k → ¬ F k) : Epo w' b S now said limbo := by
  obtain ⟨⟨vs, vl, qs, h1, h2, h3, h4, h5, h6, h7⟩, hh, hl, hs, hw⟩ := h
  refine ⟨⟨vs, vl, qs, h1.fr hf (hn _ hh), ownsRow_fr h2 hf (fun g hg => hn g (h3 g hg)), h3, ownsRow_fr h4 hf (fun g hg => hn g (h5 g hg)), h5, fun i l hi => ?_, h7⟩, hh, fun k hk => Nat.lt_of_lt_of_le (hl k hk) hf.size, hs, hw⟩
  obtain ⟨q, hq, hr, hg⟩ := h6 i l hi
  refine ⟨q, hq, hr.fr hf (fun g hx _ => hn g (hg g hx).1), fun g hx => ⟨(hg g hx).1, ?_⟩⟩
  obtain ⟨c, hc⟩ := (hg g hx).2
  exact ⟨c, hc.fr hf (hn g (hg g hx).1)⟩
theorem Epo.more {S S' : Nat → Prop} {w : World} {b : Nat} {now : Int} {said : List Int} {limbo : List (List (Int × Int))} (h : Epo w b S now said limbo) (hs : ∀ k, S k → S' k) (hl : ∀ k, S' k → k < w.heap.size) : Epo w b S' now said limbo := by
  obtain ⟨⟨vs, vl, qs, h1, h2, h3, h4, h5, h6, h7⟩, hh, _, hsm, hw⟩ := h
  refine ⟨⟨vs, vl, qs, h1, h2, fun g hg => hs g (h3 g hg), h4, fun g hg => hs g (h5 g hg), fun i l hi => ?_, h7⟩, hs _ hh, hl, hsm, hw⟩
  obtain ⟨q, hq, hr, hg⟩ := h6 i l hi
  exact ⟨q, hq, hr, fun g hx => ⟨hs g (hg g hx).1, (hg g hx).2⟩⟩
theorem in_nil (t : Int) (w : World) : Calls Try.prog 65 #[.pointer none, .int .i64 t] w fun e w' => e = .returned (.bool false) ∧ w' = w := by
  go_enter Try.func65, Try.ntmps65
  go_wp2
  go_ret
  exact ⟨rfl, rfl⟩
/-- Is there such a thread? -/
def isT (t : Int) (n : Nat) : Bool := decide (0 ≤ t ∧ t < (n : Int))
theorem in_calls {S : Nat → Prop} {w : World} {b : Nat} {now : Int} {said : List Int} {limbo : List (List (Int × Int))} (h : Epo w b S now said limbo) (t : Int) :
    Calls Try.prog 65 #[.pointer (some ⟨b, 0, none⟩), .int .i64 t] w fun e w' => e = .returned (.bool (isT t said.length)) ∧ w' = w := by
  obtain ⟨⟨vs, vl, qs, h1, h2, h3, h4, h5, h6, h7⟩, hh, hl, hs, hw⟩ := h
  obtain ⟨a, c, rfl⟩ : ∃ a c, vs = .slice a said.length c := by
    rcases row_cells h2 with ⟨rfl, h0, _⟩ | ⟨g, cap, cur, rfl, _⟩
    · exact ⟨none, 0, by rw [h0]⟩
    · exact ⟨_, _, rfl⟩
  have c1 : w.cell? ⟨b, 1, none⟩ = some (.slice a said.length c) := h1.cell 1
  clear h1 h2 h3 h4 h5 h6 h7 hl hs
  go_enter Try.func65, Try.ntmps65
  go_wp2
  all_goals
    go_ret
    refine ⟨ret_bool ?_, rfl⟩
    unfold isT
    rw [Bool.eq_iff_iff]
    simp
    try omega
theorem Now_nil (w : World) : Calls Try.prog 23 #[.pointer none] w fun e w' => e = .returned (.int .i64 0) ∧ w' = w := by
  go_enter Try.func23, Try.ntmps23
  go_wp2
  go_ret
  exact ⟨rfl, rfl⟩
theorem Now_calls {S : Nat → Prop} {w : World} {b : Nat} {now : Int} {said : List Int} {limbo : List (List (Int × Int))} (h : Epo w b S now said limbo) :
    Calls Try.prog 23 #[.pointer (some ⟨b, 0, none⟩)] w fun e w' => e = .returned (.int .i64 now) ∧ w' = w := by
  obtain ⟨⟨vs, vl, qs, h1, _⟩, _⟩ := h
  have c0 : w.cell? ⟨b, 0, none⟩ = some (.int .i64 now) := h1.cell 0
  clear h1
  go_enter Try.func23, Try.ntmps23
  go_wp2
  go_ret
  exact ⟨rfl, rfl⟩
theorem EpLen_nil (w : World) : Calls Try.prog 50 #[.pointer none] w fun e w' => e = .returned (.int .i64 0) ∧ w' = w := by
  go_enter Try.func50, Try.ntmps50
  go_wp2
  go_ret
  exact ⟨rfl, rfl⟩
theorem EpLen_calls {S : Nat → Prop} {w : World} {b : Nat} {now : Int} {said : List Int} {limbo : List (List (Int × Int))} (h : Epo w b S now said limbo) :
    Calls Try.prog 50 #[.pointer (some ⟨b, 0, none⟩)] w fun e w' => e = .returned (.int .i64 said.length) ∧ w' = w := by
  obtain ⟨⟨vs, vl, qs, h1, h2, h3, h4, h5, h6, h7⟩, hh, hl, hs, hw⟩ := h
  obtain ⟨a, c, rfl⟩ : ∃ a c, vs = .slice a said.length c := by
    rcases row_cells h2 with ⟨rfl, h0, _⟩ | ⟨g, cap, cur, rfl, _⟩
    · exact ⟨none, 0, by rw [h0]⟩
    · exact ⟨_, _, rfl⟩
  have c1 : w.cell? ⟨b, 1, none⟩ = some (.slice a said.length c) := h1.cell 1
  clear h1 h2 h3 h4 h5 h6 h7 hl hs
  go_enter Try.func50, Try.ntmps50
  go_wp2
  go_ret
  exact ⟨rfl, rfl⟩
theorem Said_nil (t : Int) (w : World) : Calls Try.prog 24 #[.pointer none, .int .i64 t] w fun e w' => e = .returned (.int .i64 (-1)) ∧ w' = w := by
  have hi := Lib.hid (in_nil t w)
  go_enter Try.func24, Try.ntmps24
  go_wp2_with (go_at_call 65; refine hi.out.mono ?_; rintro e w' ⟨rfl, rfl⟩)
  go_ret
  exact ⟨rfl, rfl⟩
theorem isT_false {t : Int} {n : Nat} (h : isT t n = false) : ¬ (0 ≤ t ∧ t < (n : Int)) := by simpa [isT] using h
theorem isT_true {t : Int} {n : Nat} (h : isT t n = true) : 0 ≤ t ∧ t < (n : Int) := by simpa [isT] using h
theorem Said_calls {S : Nat → Prop} {w : World} {b : Nat} {now : Int} {said : List Int} {limbo : List (List (Int × Int))} (h : Epo w b S now said limbo) (t : Int) :
    Calls Try.prog 24 #[.pointer (some ⟨b, 0, none⟩), .int .i64 t] w fun e w' => e = .returned (.int .i64 (if isT t said.length then said.getD t.toNat 0 else -1)) ∧ w' = w := by
  have hi := Lib.hid (in_calls h t)
  obtain ⟨⟨vs, vl, qs, h1, h2, h3, h4, h5, h6, h7⟩, hh, hl, hs, hw⟩ := h
  cases ht : isT t said.length with
  | false =>
    rw [ht] at hi
    clear h1 h2 h3 h4 h5 h6 h7 hl hs ht
    go_enter Try.func24, Try.ntmps24
    go_wp2_with (go_at_call 65; refine hi.out.mono ?_; rintro e w' ⟨rfl, rfl⟩)
    go_ret
    exact ⟨rfl, rfl⟩
  | true =>
    rw [ht] at hi
    obtain ⟨t0, t1⟩ := isT_true ht
    rcases row_cells h2 with ⟨_, h0, _⟩ | ⟨g, cap, cur, rfl, _, hg, _, _, _, _, hj⟩
    · omega
    have c1 : w.cell? ⟨b, 1, none⟩ = some (.slice (some ⟨g, 0, none⟩) said.length cap) := h1.cell 1
    have c2 : w.cell? ⟨g, t.toNat, none⟩ = some (.int .i64 (said.getD t.toNat 0)) := by
      rw [hg.cell, hj _ (by omega)]
      have : t.toNat < said.length := by omega
      simp [this, List.getD]
    clear h1 h2 h3 h4 h5 h6 h7 hl hs ht hg hj
    go_enter Try.func24, Try.ntmps24
    go_wp2_with (go_at_call 65; refine hi.out.mono ?_; rintro e w' ⟨rfl, rfl⟩)
    go_ret
    exact ⟨rfl, rfl⟩
theorem Swap_nil (n : Int) (w : World) : Calls Try.prog 17 #[.pointer none, .int .i64 n] w fun e w' => e = .returned (.bool false) ∧ w' = w := by
  go_enter Try.func17, Try.ntmps17
  go_wp2
  go_ret
  exact ⟨rfl, rfl⟩
theorem Swap_calls {S : Nat → Prop} {w : World} {b : Nat} {now : Int} {said : List Int} {limbo : List (List (Int × Int))} (h : Epo w b S now said limbo) (n : Int) (hb : 0 ≤ now ∧ now ≤ 9000000000000000000) :
    Calls Try.prog 17 #[.pointer (some ⟨b, 0, none⟩), .int .i64 n] w fun e w' => e = .returned (.bool (decide (now = n))) ∧ Fr S w w' ∧ Epo w' b S (if now = n then now + 1 else now) said limbo := by
  have H := Lib.hid h
  obtain ⟨⟨vs, vl, qs, h1, h2, h3, h4, h5, h6, h7⟩, hh, hl, hs, hw⟩ := h
  obtain ⟨hb0, hb1⟩ := hb
  have c0 : w.cell? ⟨b, 0, none⟩ = some (.int .i64 now) := h1.cell 0
  have f0 : w.frozen? ⟨b, 0, none⟩ = false := h1.froz 0
  by_cases hn : now = n
  · rw [if_pos hn, decide_eq_true hn]
    have F := (Fr.refl (fun k => k = b) w).setCell (p := ⟨b, 0, none⟩) (.inl rfl) (.int .i64 (now + 1))
    have E : Epo (w.setCell ⟨b, 0, none⟩ (.int .i64 (now + 1))) b S (now + 1) said limbo := by
      refine ⟨⟨vs, vl, qs, h1.set 0 _, ownsRow_fr h2 F (fun g hg hx => ?_), h3, ownsRow_fr h4 F (fun g hg hx => ?_), h5, fun i l hi => ?_, h7⟩, hh, fun k hk => by simpa [World.setCell] using hl k hk, hs, hw⟩
      · obtain ⟨_, c, hc⟩ := ownsRow_block h2 hg; exact hc.ne h1 (by decide) hx
      · obtain ⟨_, c, hc⟩ := ownsRow_block h4 hg; exact hc.ne h1 (by decide) hx
      · obtain ⟨q, hq, hr, hg⟩ := h6 i l hi
        have hb : ∀ g, q.ownBlock = some g → g ≠ b := fun g hx => by obtain ⟨_, c, hc⟩ := hg g hx; exact hc.ne h1 (by decide)
        exact ⟨q, hq, hr.fr F (fun g hx _ => hb g hx), fun g hx => ⟨(hg g hx).1, by obtain ⟨_, c, hc⟩ := hg g hx; exact ⟨c, hc.fr F (hb g hx)⟩⟩⟩
    have EE := Lib.hid E
    have hd : (now != n) = false := by simp [hn]
    have HN := Lib.hid hn
    clear E h1 h2 h3 h4 h5 h6 h7 hl hs hn F
    go_enter Try.func17, Try.ntmps17
    go_wp2
    go_ret
    exact ⟨rfl, (Fr.refl _ _).setCell (.inl hh) _, EE.out⟩
  · rw [if_neg hn, decide_eq_false hn]
    have hd : (now != n) = true := by simp [hn]
    clear h1 h2 h3 h4 h5 h6 h7 hl hs hn
    go_enter Try.func17, Try.ntmps17
    go_wp2
    go_ret
    exact ⟨rfl, Fr.refl _ _, H.out⟩
end Go.Proofs.Ythkohomogknddaa
namespace Go.Proofs.Ythkohomogknddaa
open Go Go.RowKit
set_option maxRecDepth 100000
set_option linter.unusedVariables false
set_option linter.unusedSimpArgs false
/-- An owned row in which one cell is another one. -/
theorem ownsRow_set {w : World} {B : Nat} {t : TypeId} {g n cap : Nat} {us : List Value} (h : w.ownsRow B t 1 (.slice (some ⟨g, 0, none⟩) n cap) n us) (i : Nat) (hi : i < n) (x : Value) :
    (w.setCell ⟨g, i, none⟩ x).ownsRow B t 1 (.slice (some ⟨g, 0, none⟩) n cap) n (us.set i x) := by
  refine ⟨by rw [List.length_set]; exact h.1, ?_⟩
  rcases h.2 with ⟨h0, _⟩ | ⟨g', cap', cur, hv, hb, hh, hc, hm, hs, ht⟩
  · cases h0
  · simp only [Value.slice.injEq, Option.some.injEq, Addr.mk.injEq] at hv
    obtain ⟨⟨rfl, _⟩, _, rfl⟩ := hv
    have hB : Blk w g t cur := hh
    refine .inr ⟨g, cap, cur.setIfInBounds i x, rfl, hb, hB.set i x, hc, hm, by simpa using hs, ?_⟩
    rw [← ht, Array.toList_setIfInBounds, List.take_set]
theorem ownsRow_get {w : World} {B : Nat} {t : TypeId} {g n cap : Nat} {us : List Value} (h : w.ownsRow B t 1 (.slice (some ⟨g, 0, none⟩) n cap) n us) (i : Nat) (u : Value) (hu : us[i]? = some u) :
    w.cell? ⟨g, i, none⟩ = some u ∧ w.frozen? ⟨g, i, none⟩ = false ∧ i < n := by
  rcases row_cells h with ⟨h0, _, _⟩ | ⟨g', cap', cur, hv, _, hg, _, _, _, hl, hj⟩
  · cases h0
  · simp only [Value.slice.injEq, Option.some.injEq, Addr.mk.injEq] at hv
    obtain ⟨⟨rfl, _⟩, _, rfl⟩ := hv
    have hi : i < n := by
      have := (List.getElem?_eq_some_iff.1 hu).1
      omega
    exact ⟨by rw [hg.cell, hj i hi]; exact hu, hg.froz i, hi⟩
theorem ownsRow_form {w : World} {B : Nat} {t : TypeId} {v : Value} {n : Nat} {us : List Value} (h : w.ownsRow B t 1 v n us) (hn : 0 < n) : ∃ g cap, v = .slice (some ⟨g, 0, none⟩) n cap := by
  rcases row_cells h with ⟨_, h0, _⟩ | ⟨g, cap, cur, hv, _⟩
  · omega
  · exact ⟨g, cap, hv⟩
theorem Say_nil (t n : Int) (w : World) : Calls Try.prog 18 #[.pointer none, .int .i64 t, .int .i64 n] w fun e w' => e = .returned (.tuple #[]) ∧ w' = w := by
  have hi := Lib.hid (in_nil t w)
  go_enter Try.func18, Try.ntmps18
  go_wp2_with (go_at_call 65; refine hi.out.mono ?_; rintro e w' ⟨rfl, rfl⟩)
  go_end0
  exact ⟨rfl, rfl⟩
theorem Say_calls {S : Nat → Prop} {w : World} {b : Nat} {now : Int} {said : List Int} {limbo : List (List (Int × Int))} (h : Epo w b S now said limbo) (t n : Int) :
    Calls Try.prog 18 #[.pointer (some ⟨b, 0, none⟩), .int .i64 t, .int .i64 n] w fun e w' => e = .returned (.tuple #[]) ∧ Fr S w w' ∧ Epo w' b S now (if isT t said.length then said.set t.toNat n else said) limbo := by
  have H := Lib.hid h
  have hi := Lib.hid (in_calls h t)
  obtain ⟨⟨vs, vl, qs, h1, h2, h3, h4, h5, h6, h7⟩, hh, hl, hs, hw⟩ := h
  cases ht : isT t said.length with
  | false =>
    rw [ht] at hi
    clear h1 h2 h3 h4 h5 h6 h7 hl hs ht
    go_enter Try.func18, Try.ntmps18
    go_wp2_with (go_at_call 65; refine hi.out.mono ?_; rintro e w' ⟨rfl, rfl⟩)
    go_end0
    exact ⟨rfl, Fr.refl _ _, H.out⟩
  | true =>
    rw [ht] at hi
    obtain ⟨t0, t1⟩ := isT_true ht
    obtain ⟨g, cap, rfl⟩ := ownsRow_form h2 (by omega)
    have hlt : t.toNat < said.length := by omega
    obtain ⟨c2, f2, _⟩ := ownsRow_get h2 t.toNat (.int .i64 (said.getD t.toNat 0)) (by simp [hlt, List.getD])
    have c1 : w.cell? ⟨b, 1, none⟩ = some (.slice (some ⟨g, 0, none⟩) said.length cap) := h1.cell 1
    have F := (Fr.refl (fun k => k = g) w).setCell (p := ⟨g, t.toNat, none⟩) (.inl rfl) (.int .i64 n)
    obtain ⟨_, cg, hg⟩ := ownsRow_block h2 (g := g) rfl
    have E : Epo (w.setCell ⟨g, t.toNat, none⟩ (.int .i64 n)) b S now (said.set t.toNat n) limbo := by
      refine ⟨⟨_, vl, qs, h1.fr F (fun hx => hg.ne h1 (by decide) hx.symm), ?_, h3, ownsRow_fr h4 F (fun k hk hx => ?_), h5, fun i l hi => ?_, h7⟩, hh, fun k hk => by simpa [World.setCell] using hl k hk, by rw [List.length_set]; exact hs, by rw [List.length_set]; exact hw⟩
      · rw [List.length_set, List.map_set]
        exact ownsRow_set h2 t.toNat hlt _
      · obtain ⟨_, c, hc⟩ := ownsRow_block h4 hk; exact hc.ne hg (by decide) hx
      · obtain ⟨q, hq, hr, hgq⟩ := h6 i l hi
        have hb : ∀ k, q.ownBlock = some k → k ≠ g := fun k hx => by obtain ⟨_, c, hc⟩ := hgq k hx; exact hc.ne hg (by decide)
        exact ⟨q, hq, hr.fr F (fun k hx _ => hb k hx), fun k hx => ⟨(hgq k hx).1, by obtain ⟨_, c, hc⟩ := hgq k hx; exact ⟨c, hc.fr F (hb k hx)⟩⟩⟩
    have EE := Lib.hid E
    have hSg := h3 g rfl
    clear E h1 h2 h3 h4 h5 h6 h7 hl hs F hg ht hw hlt
    go_enter Try.func18, Try.ntmps18
    go_wp2_with (go_at_call 65; refine hi.out.mono ?_; rintro e w' ⟨rfl, rfl⟩)
    go_end0
    exact ⟨rfl, (Fr.refl _ _).setCell (.inl hSg) _, EE.out⟩
/-- One thread's nodes are others. -/
theorem Epo_put {S : Nat → Prop} {w w1 : World} {b : Nat} {now : Int} {said : List Int} {limbo : List (List (Int × Int))} {vs : Value} {gl cl : Nat} {qs : List Value} (h1 : Blk w b 102 #[.int .i64 now, vs, .slice (some ⟨gl, 0, none⟩) limbo.length cl]) (h2 : w.ownsRow 0 2 1 vs said.length (said.map (Value.int .i64))) (h3 : ∀ g, vs.ownBlock = some g → S g)
    (h4 : w.ownsRow 0 123 1 (.slice (some ⟨gl, 0, none⟩) limbo.length cl) limbo.length qs) (h5 : ∀ g, (Value.slice (some ⟨gl, 0, none⟩) limbo.length cl).ownBlock = some g → S g)
    (h6 : ∀ (i : Nat) (l : List (Int × Int)), limbo[i]? = some l → ∃ q, qs[i]? = some q ∧ QRow w 125 2 q l.length (goneC l) ∧ ∀ g, q.ownBlock = some g → S g ∧ ∃ c, Blk w g 125 c)
    (h7 : ∀ (i j : Nat) (q q' : Value) (g : Nat), qs[i]? = some q → qs[j]? = some q' → q.ownBlock = some g → q'.ownBlock = some g → i = j)
    (hh : S b) (hl : ∀ k, S k → k < w.heap.size) (hs : said.length = limbo.length) (hw : said.length ≤ 64)
    {i : Nat} {q q' : Value} {l' : List (Int × Int)} (hi : i < limbo.length) (hq : qs[i]? = some q) (Fg : Fr (fun k => q.ownBlock = some k) w w1) (hq' : QRow w1 125 2 q' l'.length (goneC l')) (hb' : ∀ g, q'.ownBlock = some g → (q.ownBlock = some g ∨ w.heap.size ≤ g) ∧ ∃ c, Blk w1 g 125 c) :
    Fr S w (w1.setCell ⟨gl, i, none⟩ q') ∧ Epo (w1.setCell ⟨gl, i, none⟩ q') b (wide S w (w1.setCell ⟨gl, i, none⟩ q')) now said (limbo.set i l') := by
  obtain ⟨_, cg, hg⟩ := ownsRow_block h4 (g := gl) rfl
  have hlq : qs.length = limbo.length := by have := h4.1; simpa using this
  obtain ⟨l0, hl0⟩ : ∃ l0, limbo[i]? = some l0 := ⟨_, List.getElem?_eq_getElem hi⟩
  obtain ⟨qq, hqq, hr0, hg0⟩ := h6 i l0 hl0
  obtain rfl : qq = q := by rw [hq] at hqq; simpa using hqq.symm
  have nb : ∀ k, qq.ownBlock = some k → ∀ (T : TypeId) (c : Array Value) (x : Nat), Blk w x T c → T ≠ 125 → x ≠ k := fun k hk T c x hx hT => by
    obtain ⟨_, c', hc'⟩ := hg0 k hk
    exact hx.ne hc' hT
  have O4 : w1.ownsRow 0 123 1 (.slice (some ⟨gl, 0, none⟩) limbo.length cl) limbo.length qs := ownsRow_fr h4 Fg (fun k hk hx => by
    obtain ⟨_, c, hc⟩ := ownsRow_block h4 hk; exact nb k hx _ _ _ hc (by decide) rfl)
  have hg1 : Blk w1 gl 123 cg := hg.fr Fg (fun hx => nb gl hx _ _ _ hg (by decide) rfl)
  have Fs := (Fr.refl (fun k => k = gl) w1).setCell (p := ⟨gl, i, none⟩) (.inl rfl) q'
  have O5 := ownsRow_set O4 i hi q'
  generalize hw' : w1.setCell ⟨gl, i, none⟩ q' = w' at *
  have s' : w'.heap.size = w1.heap.size := by rw [← hw']; simp [World.setCell]
  have F' : Fr (fun k => k = gl ∨ qq.ownBlock = some k) w w' := (Fg.mono (fun _ _ x => .inr x)).trans Fs (fun k _ hk => .inl hk)
  have hgS : S gl := h5 gl rfl
  refine ⟨F'.mono (fun k _ hk => ?_), ⟨⟨vs, .slice (some ⟨gl, 0, none⟩) limbo.length cl, qs.set i q', ?_, ?_, fun g hg => .inl (h3 g hg), ?_, ?_, ?_, ?_⟩, .inl hh, ?_, by rw [List.length_set]; exact hs, hw⟩⟩
  · rcases hk with rfl | hk
    · exact hgS
    · exact (hg0 k hk).1
  · exact h1.fr F' (fun hx => by rcases hx with hx | hx; exact h1.ne hg (by decide) hx; exact nb _ hx _ _ _ h1 (by decide) rfl)
  · exact ownsRow_fr h2 F' (fun k hk hx => by
      obtain ⟨_, c, hc⟩ := ownsRow_block h2 hk
      rcases hx with hx | hx
      · exact hc.ne hg (by decide) hx
      · exact nb _ hx _ _ _ hc (by decide) rfl)
  · rw [List.length_set]; exact O5
  · exact fun g hg => .inl (h5 g hg)
  · intro j l hj
    by_cases hij : i = j
    · subst hij
      rw [List.getElem?_set_self hi] at hj
      simp only [Option.some.injEq] at hj
      subst hj
      refine ⟨q', List.getElem?_set_self (by omega), hq'.fr Fs (fun k _ hc hx => by obtain ⟨c, hc⟩ := hc; exact hc.ne hg1 (by decide) hx), fun g hg2 => ?_⟩
      obtain ⟨hx, c, hc⟩ := hb' g hg2
      refine ⟨?_, c, hc.fr Fs (fun hx => hc.ne hg1 (by decide) hx)⟩
      rcases hx with hx | hx
      · exact .inl (hg0 g hx).1
      · exact .inr ⟨hx, by rw [s']; exact hc.lt⟩
    · rw [List.getElem?_set_ne hij] at hj
      obtain ⟨q2, hq2, hr2, hg2⟩ := h6 j l hj
      have no : ∀ k, q2.ownBlock = some k → ¬ (k = gl ∨ qq.ownBlock = some k) := fun k hk hx => by
        rcases hx with hx | hx
        · obtain ⟨_, c, hc⟩ := hg2 k hk; exact hc.ne hg (by decide) hx
        · exact hij (h7 i j qq q2 k hq hq2 hx hk)
      refine ⟨q2, by rw [List.getElem?_set_ne hij]; exact hq2, hr2.fr F' (fun k hk _ => no k hk), fun g hx => ⟨.inl (hg2 g hx).1, ?_⟩⟩
      obtain ⟨_, c, hc⟩ := hg2 g hx
      exact ⟨c, hc.fr F' (no g hx)⟩
  · intro i1 j1 q1 q2 g e1 e2 b1 b2
    have old : ∀ j q2 k, j ≠ i → qs[j]? = some q2 → q2.ownBlock = some k → q'.ownBlock = some k → False := fun j q2 k hj hq2 hk hk' => by
      have hjl : j < limbo.length := by rw [← hlq]; exact (List.getElem?_eq_some_iff.1 hq2).1
      obtain ⟨q3, hq3, _, hg3⟩ := h6 j _ (List.getElem?_eq_getElem hjl)
      obtain rfl : q3 = q2 := by rw [hq2] at hq3; simpa using hq3.symm
      rcases (hb' k hk').1 with hx | hx
      · exact hj (h7 j i q3 qq k hq2 hq hk hx)
      · have := hl k (hg3 k hk).1; omega
    by_cases ha : i = i1
    · by_cases hb : i = j1
      · omega
      · subst ha
        rw [List.getElem?_set_self (by omega)] at e1
        simp only [Option.some.injEq] at e1
        subst e1
        rw [List.getElem?_set_ne hb] at e2
        exact (old j1 q2 g (fun x => hb x.symm) e2 b2 b1).elim
    · rw [List.getElem?_set_ne ha] at e1
      by_cases hb : i = j1
      · subst hb
        rw [List.getElem?_set_self (by omega)] at e2
        simp only [Option.some.injEq] at e2
        subst e2
        exact (old i1 q1 g (fun x => ha x.symm) e1 b1 b2).elim
      · rw [List.getElem?_set_ne hb] at e2
        exact h7 i1 j1 q1 q2 g e1 e2 b1 b2
  · rintro k (hk | hk)
    · exact Nat.lt_of_lt_of_le (hl k hk) F'.size
    · exact hk.2
end Go.Proofs.Ythkohomogknddaa
namespace Go.Proofs.Ythkohomogknddaa
open Go Go.RowKit
set_option maxRecDepth 100000
set_option linter.unusedVariables false
set_option linter.unusedSimpArgs false
theorem info_gone : (Try.prog.info? 125).map (fun i => (i.zero, i.size, i.bytes)) = some (some (.agg #[.int .i64 0, .int .i64 0]), 2, 16) := by kernel_rfl
theorem Leave_nil (t node at_ : Int) (w : World) : Calls Try.prog 31 #[.pointer none, .int .i64 t, .int .i64 node, .int .i64 at_] w fun e w' => e = .returned (.tuple #[]) ∧ w' = w := by
  have hi := Lib.hid (in_nil t w)
  go_enter Try.func31, Try.ntmps31
  go_wp2_with (go_at_call 65; refine hi.out.mono ?_; rintro e w' ⟨rfl, rfl⟩)
  go_end0
  exact ⟨rfl, rfl⟩
theorem Leave_no {S : Nat → Prop} {w : World} {b : Nat} {now : Int} {said : List Int} {limbo : List (List (Int × Int))} (h : Epo w b S now said limbo) (t node at_ : Int) (ht : isT t said.length = false) :
    Calls Try.prog 31 #[.pointer (some ⟨b, 0, none⟩), .int .i64 t, .int .i64 node, .int .i64 at_] w fun e w' => e = .returned (.tuple #[]) ∧ w' = w := by
  have hi := Lib.hid (in_calls h t)
  rw [ht] at hi
  clear ht h
  go_enter Try.func31, Try.ntmps31
  go_wp2_with (go_at_call 65; refine hi.out.mono ?_; rintro e w' ⟨rfl, rfl⟩)
  go_end0
  exact ⟨rfl, rfl⟩
set_option maxHeartbeats 1600000 in
set_option maxRecDepth 100000 in
theorem Leave_yes {S : Nat → Prop} {w : World} {b : Nat} {now : Int} {said : List Int} {limbo : List (List (Int × Int))} (h : Epo w b S now said limbo) (t node at_ : Int) (ht : isT t said.length = true) (l : List (Int × Int)) (hl0 : limbo[t.toNat]? = some l) (hsz : l.length ≤ 1000000) :
    Calls Try.prog 31 #[.pointer (some ⟨b, 0, none⟩), .int .i64 t, .int .i64 node, .int .i64 at_] w fun e w' => e = .returned (.tuple #[]) ∧ Fr S w w' ∧ Epo w' b (wide S w w') now said (limbo.set t.toNat (l ++ [(node, at_)])) := by
  have hin := Lib.hid (in_calls h t)
  rw [ht] at hin
  obtain ⟨t0, t1⟩ := isT_true ht
  obtain ⟨⟨vs, vl, qs, h1, h2, h3, h4, h5, h6, h7⟩, hh, hl, hs, hw⟩ := h
  rw [hs] at t1
  obtain ⟨gl, cl, rfl⟩ := ownsRow_form h4 (by omega)
  obtain ⟨q, hq, hr, hg⟩ := h6 t.toNat l hl0
  obtain ⟨a, cap, rfl, _, _⟩ := hr.form
  obtain ⟨cq, fq, hti⟩ := ownsRow_get h4 t.toNat _ hq
  obtain ⟨_, cg, hgl⟩ := ownsRow_block h4 (g := gl) rfl
  have c2 : w.cell? ⟨b, 2, none⟩ = some (.slice (some ⟨gl, 0, none⟩) limbo.length cl) := h1.cell 2
  have lb := h1.lt
  have lgl := hgl.lt
  have hnt : (Value.slice a l.length cap).ownBlock ≠ some gl := fun hx => by
    obtain ⟨_, c, hc⟩ := hg gl hx
    exact hc.ne hgl (by decide) rfl
  have hbt : (Value.slice a l.length cap).ownBlock ≠ some b := fun hx => by
    obtain ⟨_, c, hc⟩ := hg b hx
    exact hc.ne h1 (by decide) rfl
  have B1 := h1
  obtain ⟨i0, hi, hz0, hz1, hz2⟩ := info_parts info_gone
  have hlm : l.length + 1 ≤ maxLen := by unfold maxLen; omega
  have hlb : (l.length + 1) * 16 ≤ 140737488355328 := by omega
  have KEEP := Lib.hid (And.intro h1 (And.intro h2 (And.intro h3 (And.intro h4 (And.intro h5 (And.intro h6 (And.intro h7 (And.intro hl (And.intro hs (And.intro hw (And.intro hq hg)))))))))))
  have HT := Lib.hid ht
  clear h1 h2 h3 h4 h5 h6 h7 hl hs hq hg ht hl0 hw
  go_enter Try.func31, Try.ntmps31
  go_wp2_with (go_at_call 65; refine hin.out.mono ?_; rintro e w' ⟨rfl, hw⟩; have hw := hw.symm; subst hw)
  go_region_law ((refine step_append_q _ (by rfl) _ _ _ (by rfl) 125 i0 (.agg #[.int .i64 0, .int .i64 0]) 2 16 Try.underlying123 hi hz0 hz1 hz2 rfl (by decide) (.slice a l.length cap) l.length (goneC l) (by rfl) (hr.fr ((((Fr.refl nob w)).alloc _).drew) (fun _ _ _ x => x)) ⟨w.heap.size, 0, none⟩ 1 1 [.int .i64 node, .int .i64 at_] (by rfl) (by rfl) (World.news_of_block (cs := #[.int .i64 node, .int .i64 at_]) (t := 125) (fr := (0, 0)) (by exact Blk.new' rfl _ _)) (by simp [Value.oneCell']) (by decide) hlm hlb ?_; intro g off cap' w1 q1 grow1 hat hlt; have T4 := ((hgl.alloc _).drew).grown grow1 hnt; have y0 : w1.cell? ⟨gl, t.toNat, none⟩ = some (.slice a l.length cap) := (by rw [T4.cell, ← hgl.cell]; exact cq); have y1 : w1.frozen? ⟨gl, t.toNat, none⟩ = false := T4.froz _; have y2 : w1.cell? ⟨b, 2, none⟩ = some (.slice (some ⟨gl, 0, none⟩) limbo.length cl) := (((B1.alloc _).drew).grown grow1 hbt).cell 2))
  all_goals
    obtain ⟨h1, h2, h3, h4, h5, h6, h7, hl, hs, hw, hq, hg⟩ := KEEP.out
    have Fg : Fr (fun k => (Value.slice a l.length cap).ownBlock = some k) w w1 := (((Fr.refl (fun k => (Value.slice a l.length cap).ownBlock = some k) w).alloc _).drew).grown grow1 (fun k hk => .inl hk)
    have hb' : ∀ k, (Value.slice (some ⟨g, off, none⟩) (l.length + 1) cap').ownBlock = some k → ((Value.slice a l.length cap).ownBlock = some k ∨ w.heap.size ≤ k) ∧ ∃ c, Blk w1 k 125 c := fun k hk => by
      simp [Value.ownBlock] at hk
      subst hk
      refine ⟨?_, ?_⟩
      · rcases hat with hx | hx
        · exact .inl hx
        · simp at hx; exact .inr (by omega)
      · obtain ⟨_, _, c, hx, hy, _⟩ := q1.at (by omega)
        simp only [Option.some.injEq, Addr.mk.injEq] at hx
        obtain ⟨rfl, _⟩ := hx
        exact ⟨c, hy⟩
    have P := Epo_put (l' := l ++ [(node, at_)]) h1 h2 h3 h4 h5 h6 h7 hh hl hs hw (by omega) hq Fg (by rw [List.length_append, ← goneC_append]; exact q1) hb'
    have PP := Lib.hid P
    clear P hb' Fg KEEP h1 h2 h3 h4 h5 h6 h7 hl hs hw hq hg q1 grow1
    go_wp2
    go_end0
    exact ⟨rfl, PP.out⟩
/-- May a node be freed? -/
def ripe (at_ now : Int) : Bool := decide (at_ ≤ now ∧ 3 ≤ now - at_)
theorem Ready_nil (t n : Int) (w : World) : Calls Try.prog 44 #[.pointer none, .int .i64 t, .int .i64 n] w fun e w' => e = .returned (.int .i64 0) ∧ w' = w := by
  have hi := Lib.hid (in_nil t w)
  go_enter Try.func44, Try.ntmps44
  go_wp2_with (go_at_call 65; refine hi.out.mono ?_; rintro e w' ⟨rfl, rfl⟩)
  go_ret
  exact ⟨rfl, rfl⟩
theorem Ready_none {S : Nat → Prop} {w : World} {b : Nat} {now : Int} {said : List Int} {limbo : List (List (Int × Int))} (h : Epo w b S now said limbo) (t n : Int) (ht : isT t said.length = false ∨ limbo[t.toNat]? = some []) :
    Calls Try.prog 44 #[.pointer (some ⟨b, 0, none⟩), .int .i64 t, .int .i64 n] w fun e w' => e = .returned (.int .i64 0) ∧ w' = w := by
  have hi := Lib.hid (in_calls h t)
  cases hT : isT t said.length with
  | false =>
    rw [hT] at hi
    clear ht h hT
    go_enter Try.func44, Try.ntmps44
    go_wp2_with (go_at_call 65; refine hi.out.mono ?_; rintro e w' ⟨rfl, rfl⟩)
    go_ret
    exact ⟨rfl, rfl⟩
  | true =>
    rw [hT] at hi
    obtain ⟨t0, t1⟩ := isT_true hT
    have hl0 : limbo[t.toNat]? = some [] := by
      rcases ht with hx | hx
      · rw [hT] at hx; cases hx
      · exact hx
    obtain ⟨⟨vs, vl, qs, h1, h2, h3, h4, h5, h6, h7⟩, hh, hl, hs, hw⟩ := h
    rw [hs] at t1
    obtain ⟨gl, cl, rfl⟩ := ownsRow_form h4 (by omega)
    obtain ⟨q, hq, hr, hg⟩ := h6 t.toNat [] hl0
    obtain ⟨a, cap, rfl, _, _⟩ := hr.form
    obtain ⟨cq, fq, hti⟩ := ownsRow_get h4 t.toNat _ hq
    have c2 : w.cell? ⟨b, 2, none⟩ = some (.slice (some ⟨gl, 0, none⟩) limbo.length cl) := h1.cell 2
    clear h1 h2 h3 h4 h5 h6 h7 hl hs hw ht hT hl0 hq hg hr
    simp only [List.length_nil] at cq
    go_enter Try.func44, Try.ntmps44
    go_wp2_with (go_at_call 65; refine hi.out.mono ?_; rintro e w' ⟨rfl, rfl⟩)
    go_ret
    exact ⟨rfl, rfl⟩
end Go.Proofs.Ythkohomogknddaa
namespace Go.Proofs.Ythkohomogknddaa
open Go Go.RowKit
set_option maxRecDepth 100000
set_option linter.unusedVariables false
set_option linter.unusedSimpArgs false
theorem u64_gap {n a : Int} (hn0 : -9223372036854775808 ≤ n) (hn1 : n ≤ 9223372036854775807) (ha0 : -9223372036854775808 ≤ a) (ha1 : a ≤ 9223372036854775807) (h : a ≤ n) :
    IntKind.u64.wrap (IntKind.u64.wrap n - IntKind.u64.wrap a) = n - a := by
  simp [IntKind.wrap, IntKind.signed, IntKind.bits]
  omega
set_option maxHeartbeats 1600000 in
set_option maxRecDepth 100000 in
theorem Ready_low {S : Nat → Prop} {w : World} {b : Nat} {now : Int} {said : List Int} {limbo : List (List (Int × Int))} (h : Epo w b S now said limbo) (t n : Int) (ht : isT t said.length = true) (node at_ : Int) (l : List (Int × Int)) (hl0 : limbo[t.toNat]? = some ((node, at_) :: l))
    (hn : -9223372036854775808 ≤ n ∧ n ≤ 9223372036854775807) (ha : -9223372036854775808 ≤ at_ ∧ at_ ≤ 9223372036854775807) (hr1 : n < at_) :
    Calls Try.prog 44 #[.pointer (some ⟨b, 0, none⟩), .int .i64 t, .int .i64 n] w fun e w' => e = .returned (.int .i64 0) ∧ Fr nob w w' := by
  have hin := Lib.hid (in_calls h t)
  have H := Lib.hid h
  rw [ht] at hin
  obtain ⟨t0, t1⟩ := isT_true ht
  obtain ⟨⟨vs, vl, qs, h1, h2, h3, h4, h5, h6, h7⟩, hh, hl, hs, hw⟩ := h
  rw [hs] at t1
  obtain ⟨gl, cl, rfl⟩ := ownsRow_form h4 (by omega)
  obtain ⟨q, hq, hr, hg⟩ := h6 t.toNat _ hl0
  obtain ⟨a, cap, rfl, _, _⟩ := hr.form
  obtain ⟨cq, fq, hti⟩ := ownsRow_get h4 t.toNat _ hq
  obtain ⟨g, off, cur, rfl, hgb, hcap, hat⟩ := hr.at (by simp)
  have c2 : w.cell? ⟨b, 2, none⟩ = some (.slice (some ⟨gl, 0, none⟩) limbo.length cl) := h1.cell 2
  have a0 : w.cell? ⟨g, off, none⟩ = some (.int .i64 node) := hat 0 _ rfl
  have a1 : w.cell? ⟨g, off + 1, none⟩ = some (.int .i64 at_) := hat 1 _ rfl
  have lgb := hgb.lt
  have lbb := h1.lt
  obtain ⟨_, cg, hgl⟩ := ownsRow_block h4 (g := gl) rfl
  have lgl := hgl.lt
  obtain ⟨hn0, hn1⟩ := hn
  obtain ⟨ha0, ha1⟩ := ha
  have KEEP := Lib.hid (And.intro h1 (And.intro h2 (And.intro h3 (And.intro h4 (And.intro h5 (And.intro h6 (And.intro h7 (And.intro hl (And.intro hs (And.intro hw (And.intro hq (And.intro hg hr))))))))))))
  clear h1 h2 h3 h4 h5 h6 h7 hl hs hw ht hl0 hq hg hr hat
  simp only [List.length_cons] at cq hcap
  go_enter Try.func44, Try.ntmps44
  go_wp2_with (go_at_call 65; refine hin.out.mono ?_; rintro e w' ⟨rfl, hw⟩; have hw := hw.symm; subst hw)
  go_ret
  exact ⟨rfl, (Fr.refl _ _).alloc _⟩
set_option maxHeartbeats 1600000 in
set_option maxRecDepth 100000 in
theorem Ready_soon {S : Nat → Prop} {w : World} {b : Nat} {now : Int} {said : List Int} {limbo : List (List (Int × Int))} (h : Epo w b S now said limbo) (t n : Int) (ht : isT t said.length = true) (node at_ : Int) (l : List (Int × Int)) (hl0 : limbo[t.toNat]? = some ((node, at_) :: l))
    (hn : -9223372036854775808 ≤ n ∧ n ≤ 9223372036854775807) (ha : -9223372036854775808 ≤ at_ ∧ at_ ≤ 9223372036854775807) (hr1 : at_ ≤ n) (hr2 : n - at_ < 3) :
    Calls Try.prog 44 #[.pointer (some ⟨b, 0, none⟩), .int .i64 t, .int .i64 n] w fun e w' => e = .returned (.int .i64 0) ∧ Fr nob w w' := by
  have hin := Lib.hid (in_calls h t)
  have H := Lib.hid h
  rw [ht] at hin
  obtain ⟨t0, t1⟩ := isT_true ht
  obtain ⟨⟨vs, vl, qs, h1, h2, h3, h4, h5, h6, h7⟩, hh, hl, hs, hw⟩ := h
  rw [hs] at t1
  obtain ⟨gl, cl, rfl⟩ := ownsRow_form h4 (by omega)
  obtain ⟨q, hq, hr, hg⟩ := h6 t.toNat _ hl0
  obtain ⟨a, cap, rfl, _, _⟩ := hr.form
  obtain ⟨cq, fq, hti⟩ := ownsRow_get h4 t.toNat _ hq
  obtain ⟨g, off, cur, rfl, hgb, hcap, hat⟩ := hr.at (by simp)
  have c2 : w.cell? ⟨b, 2, none⟩ = some (.slice (some ⟨gl, 0, none⟩) limbo.length cl) := h1.cell 2
  have a0 : w.cell? ⟨g, off, none⟩ = some (.int .i64 node) := hat 0 _ rfl
  have a1 : w.cell? ⟨g, off + 1, none⟩ = some (.int .i64 at_) := hat 1 _ rfl
  have lgb := hgb.lt
  have lbb := h1.lt
  obtain ⟨_, cg, hgl⟩ := ownsRow_block h4 (g := gl) rfl
  have lgl := hgl.lt
  obtain ⟨hn0, hn1⟩ := hn
  obtain ⟨ha0, ha1⟩ := ha
  have KEEP := Lib.hid (And.intro h1 (And.intro h2 (And.intro h3 (And.intro h4 (And.intro h5 (And.intro h6 (And.intro h7 (And.intro hl (And.intro hs (And.intro hw (And.intro hq (And.intro hg hr))))))))))))
  clear h1 h2 h3 h4 h5 h6 h7 hl hs hw ht hl0 hq hg hr hat
  simp only [List.length_cons] at cq hcap
  have hgap := u64_gap hn0 hn1 ha0 ha1 hr1
  go_enter Try.func44, Try.ntmps44
  go_wp2_with (go_at_call 65; refine hin.out.mono ?_; rintro e w' ⟨rfl, hw⟩; have hw := hw.symm; subst hw)
  go_ret
  exact ⟨rfl, (Fr.refl _ _).alloc _⟩
set_option maxHeartbeats 1600000 in
set_option maxRecDepth 100000 in
theorem Ready_ripe {S : Nat → Prop} {w : World} {b : Nat} {now : Int} {said : List Int} {limbo : List (List (Int × Int))} (h : Epo w b S now said limbo) (t n : Int) (ht : isT t said.length = true) (node at_ : Int) (l : List (Int × Int)) (hl0 : limbo[t.toNat]? = some ((node, at_) :: l))
    (hn : -9223372036854775808 ≤ n ∧ n ≤ 9223372036854775807) (ha : -9223372036854775808 ≤ at_ ∧ at_ ≤ 9223372036854775807) (hr1 : at_ ≤ n) (hr2 : 3 ≤ n - at_) :
    Calls Try.prog 44 #[.pointer (some ⟨b, 0, none⟩), .int .i64 t, .int .i64 n] w fun e w' => e = .returned (.int .i64 node) ∧ Fr S w w' ∧ Epo w' b (wide S w w') now said (limbo.set t.toNat l) := by
  have hin := Lib.hid (in_calls h t)
  have H := Lib.hid h
  rw [ht] at hin
  obtain ⟨t0, t1⟩ := isT_true ht
  obtain ⟨⟨vs, vl, qs, h1, h2, h3, h4, h5, h6, h7⟩, hh, hl, hs, hw⟩ := h
  rw [hs] at t1
  obtain ⟨gl, cl, rfl⟩ := ownsRow_form h4 (by omega)
  obtain ⟨q, hq, hr, hg⟩ := h6 t.toNat _ hl0
  obtain ⟨a, cap, rfl, _, _⟩ := hr.form
  obtain ⟨cq, fq, hti⟩ := ownsRow_get h4 t.toNat _ hq
  obtain ⟨g, off, cur, rfl, hgb, hcap, hat⟩ := hr.at (by simp)
  have c2 : w.cell? ⟨b, 2, none⟩ = some (.slice (some ⟨gl, 0, none⟩) limbo.length cl) := h1.cell 2
  have a0 : w.cell? ⟨g, off, none⟩ = some (.int .i64 node) := hat 0 _ rfl
  have a1 : w.cell? ⟨g, off + 1, none⟩ = some (.int .i64 at_) := hat 1 _ rfl
  have lgb := hgb.lt
  have lbb := h1.lt
  obtain ⟨_, cg, hgl⟩ := ownsRow_block h4 (g := gl) rfl
  have lgl := hgl.lt
  obtain ⟨hn0, hn1⟩ := hn
  obtain ⟨ha0, ha1⟩ := ha
  have KEEP := Lib.hid (And.intro h1 (And.intro h2 (And.intro h3 (And.intro h4 (And.intro h5 (And.intro h6 (And.intro h7 (And.intro hl (And.intro hs (And.intro hw (And.intro hq (And.intro hg hr))))))))))))
  clear h1 h2 h3 h4 h5 h6 h7 hl hs hw ht hl0 hq hg hr hat
  simp only [List.length_cons] at cq hcap
  have hgap := u64_gap hn0 hn1 ha0 ha1 hr1
  by_cases hc1 : cap = 1
  · subst hc1
    obtain rfl : l = [] := List.eq_nil_of_length_eq_zero (by omega)
    simp only [List.length_nil] at *
    go_enter Try.func44, Try.ntmps44
    go_wp2_with (go_at_call 65; refine hin.out.mono ?_; rintro e w' ⟨rfl, hw⟩; have hw := hw.symm; subst hw)
    go_region
    obtain ⟨h1, h2, h3, h4, h5, h6, h7, hl, hs, hw, hq, hg, hr⟩ := KEEP.out
    have P := Epo_put (w1 := w) (q' := .slice (some ⟨g, off, none⟩) 0 0) (l' := []) h1 h2 h3 h4 h5 h6 h7 hh hl hs hw hti hq (Fr.refl _ w) ((QRow.pop (n := 0) hr).2 rfl) (fun k hk => by
      simp [Value.ownBlock] at hk
      subst hk
      exact ⟨.inl rfl, cur, hgb⟩)
    have Fa := ((Fr.refl nob (w.setCell ⟨gl, t.toNat, none⟩ (.slice (some ⟨g, off, none⟩) 0 0))).alloc (.cells #[.int .i64 node, .int .i64 at_] 125)).drew
    have E2 := (P.2.fr Fa (fun _ _ x => x)).more (S' := wide S w ((w.setCell ⟨gl, t.toNat, none⟩ (.slice (some ⟨g, off, none⟩) 0 0)).alloc (.cells #[.int .i64 node, .int .i64 at_] 125)).drew) (fun k hk => by rcases hk with hk | hk; exact .inl hk; exact .inr ⟨hk.1, Nat.lt_of_lt_of_le hk.2 Fa.size⟩) (fun k hk => by rcases hk with hk | hk; exact Nat.lt_of_lt_of_le (hl k hk) (P.1.trans Fa (fun _ _ x => x.elim)).size; exact hk.2)
    have PP := Lib.hid (And.intro (P.1.trans Fa (fun _ _ x => x.elim)) E2)
    clear P Fa E2 KEEP h1 h2 h3 h4 h5 h6 h7 hl hs hw hq hg hr hgap
    go_wp2
    go_ret
    exact ⟨rfl, PP.out⟩
  · have hc2 : 2 ≤ cap := by omega
    have HC := Lib.hid hc1
    clear hc1
    go_enter Try.func44, Try.ntmps44
    go_wp2_with (go_at_call 65; refine hin.out.mono ?_; rintro e w' ⟨rfl, hw⟩; have hw := hw.symm; subst hw)
    go_region
    obtain ⟨h1, h2, h3, h4, h5, h6, h7, hl, hs, hw, hq, hg, hr⟩ := KEEP.out
    have P := Epo_put (w1 := w) (q' := .slice (some ⟨g, off + 2, none⟩) l.length (cap - 1)) (l' := l) h1 h2 h3 h4 h5 h6 h7 hh hl hs hw hti hq (Fr.refl _ w) ((QRow.pop (n := l.length) hr).1) (fun k hk => by
      simp [Value.ownBlock] at hk
      subst hk
      exact ⟨.inl rfl, cur, hgb⟩)
    have Fa := ((Fr.refl nob (w.setCell ⟨gl, t.toNat, none⟩ (.slice (some ⟨g, off + 2, none⟩) l.length (cap - 1)))).alloc (.cells #[.int .i64 node, .int .i64 at_] 125)).drew
    have E2 := (P.2.fr Fa (fun _ _ x => x)).more (S' := wide S w ((w.setCell ⟨gl, t.toNat, none⟩ (.slice (some ⟨g, off + 2, none⟩) l.length (cap - 1))).alloc (.cells #[.int .i64 node, .int .i64 at_] 125)).drew) (fun k hk => by rcases hk with hk | hk; exact .inl hk; exact .inr ⟨hk.1, Nat.lt_of_lt_of_le hk.2 Fa.size⟩) (fun k hk => by rcases hk with hk | hk; exact Nat.lt_of_lt_of_le (hl k hk) (P.1.trans Fa (fun _ _ x => x.elim)).size; exact hk.2)
    have PP := Lib.hid (And.intro (P.1.trans Fa (fun _ _ x => x.elim)) E2)
    clear P Fa E2 KEEP h1 h2 h3 h4 h5 h6 h7 hl hs hw hq hg hr hgap
    go_wp2
    go_ret
    exact ⟨rfl, PP.out⟩
end Go.Proofs.Ythkohomogknddaa
namespace Go.Proofs.Ythkohomogknddaa
open Go Go.RowKit
set_option maxRecDepth 100000
set_option linter.unusedVariables false
set_option linter.unusedSimpArgs false
/-- How many wait. -/
def waits (limbo : List (List (Int × Int))) : Nat := (limbo.map List.length).sum
theorem waits_take (limbo : List (List (Int × Int))) (k : Nat) (l : List (Int × Int)) (h : limbo[k]? = some l) : waits (limbo.take (k + 1)) = waits (limbo.take k) + l.length := by
  obtain ⟨hk, rfl⟩ := List.getElem?_eq_some_iff.1 h
  unfold waits
  rw [List.take_succ_eq_append_getElem hk, List.map_append, List.sum_append]
  simp only [List.map_cons, List.map_nil, List.sum_cons, List.sum_nil]
  omega
theorem waits_le (limbo : List (List (Int × Int))) (k : Nat) : waits (limbo.take k) ≤ waits limbo := by
  unfold waits
  have : (limbo.map List.length).sum = ((limbo.take k).map List.length).sum + ((limbo.drop k).map List.length).sum := by
    rw [← List.sum_append, ← List.map_append, List.take_append_drop]
  omega
theorem Limbo_nil (w : World) : Calls Try.prog 34 #[.pointer none] w fun e w' => e = .returned (.int .i64 0) ∧ w' = w := by
  go_enter Try.func34, Try.ntmps34
  go_wp2
  go_ret
  exact ⟨rfl, rfl⟩
set_option maxRecDepth 100000 in
theorem Limbo_calls {S : Nat → Prop} {w : World} {b : Nat} {now : Int} {said : List Int} {limbo : List (List (Int × Int))} (h : Epo w b S now said limbo) (hsz : waits limbo ≤ 1000000000) :
    Calls Try.prog 34 #[.pointer (some ⟨b, 0, none⟩)] w fun e w' => e = .returned (.int .i64 (waits limbo)) ∧ w' = w := by
  obtain ⟨⟨vs, vl, qs, h1, h2, h3, h4, h5, h6, h7⟩, hh, hl, hs, hw⟩ := h
  obtain ⟨av, cl, rfl⟩ : ∃ a c, vl = .slice a limbo.length c := by
    rcases row_cells h4 with ⟨rfl, h0, _⟩ | ⟨g, cap, cur, rfl, _⟩
    · exact ⟨none, 0, by rw [h0]⟩
    · exact ⟨_, _, rfl⟩
  have c2 : w.cell? ⟨b, 2, none⟩ = some (.slice av limbo.length cl) := h1.cell 2
  have h64 : limbo.length ≤ 64 := by omega
  have K4 := Lib.hid h4
  have K6 := Lib.hid h6
  clear h1 h2 h3 h4 h5 h6 h7 hl hs hw
  go_enter Try.func34, Try.ntmps34
  go_wp2
  go_loop [3, 13] (fun s i => ∃ k : Nat, k ≤ limbo.length ∧ i = .int .i64 k ∧ s = .int .i64 (waits (limbo.take k))) (fun _ i => limbo.length - (intOf i).toNat)
  case atStart => exact ⟨0, Nat.zero_le _, rfl, rfl⟩
  case round =>
    obtain ⟨k, hk, rfl, rfl⟩ := hrel
    by_cases hlt : k < limbo.length
    · obtain ⟨gl, cap, hv⟩ := ownsRow_form K4.out (by omega)
      simp only [Value.slice.injEq] at hv
      obtain ⟨rfl, _, rfl⟩ := hv
      obtain ⟨l, hl⟩ : ∃ l, limbo[k]? = some l := ⟨_, List.getElem?_eq_getElem hlt⟩
      obtain ⟨q, hq, hr, _⟩ := K6.out k l hl
      obtain ⟨a, cp, rfl, _, _⟩ := hr.form
      obtain ⟨cq, _, _⟩ := ownsRow_get K4.out k _ hq
      have hst := waits_take limbo k l hl
      have hle := waits_le limbo (k + 1)
      have hb : (waits (limbo.take k) : Int) + (l.length : Int) ≤ 1000000000 := by omega
      have HS := Lib.hid hst
      clear hst hle hr hq hl
      go_wp2
      go_round
      case rel => exact ⟨k + 1, by omega, by go_num, by rw [HS.out]; go_num⟩
      case measure => simp [intOf]; omega
    · obtain rfl : k = limbo.length := by omega
      clear hlt hk
      go_wp2
      go_ret
      exact ⟨rfl, rfl⟩
theorem form_own {w : World} {B : Nat} {t : TypeId} {v : Value} {n : Nat} {us : List Value} (h : w.ownsRow B t 1 v n us) : ∃ a c, v = .slice a n c := by
  rcases row_cells h with ⟨rfl, rfl, _⟩ | ⟨g, cap, cur, rfl, _⟩
  · exact ⟨none, 0, rfl⟩
  · exact ⟨_, _, rfl⟩
theorem ep_info_i64 : (Try.prog.info? 2).map (fun i => (i.zero, i.size, i.bytes)) = some (some (.int .i64 0), 1, 8) := by kernel_rfl
theorem info_gones : (Try.prog.info? 123).map (fun i => (i.zero, i.size, i.bytes)) = some (some (.slice none 0 0), 1, 24) := by kernel_rfl
/-- How many threads there are. -/
def many (n : Int) : Nat := (min (max n 0) 64).toNat
set_option maxHeartbeats 1600000 in
set_option maxRecDepth 100000 in
theorem EpNew_calls (n : Int) (w : World) : Calls Try.prog 88 #[.int .i64 n] w fun e w' => ∃ b, e = .returned (.pointer (some ⟨b, 0, none⟩)) ∧ Fr nob w w' ∧ Epo w' b (wide nob w w') 0 (List.replicate (many n) (-1)) (List.replicate (many n) []) := by
  obtain ⟨i0, hi, hz0, hz1, hz2⟩ := info_parts ep_info_i64
  obtain ⟨j0, hj, jz0, jz1, jz2⟩ := info_parts info_gones
  go_enter Try.func88, Try.ntmps88
  go_upto_region 1 with fail
  go_cut [0] (fun s0 wx => s0 = .int .i64 (many n) ∧ wx = w)
  case first =>
    go_wp2_with fail
    all_goals
      go_meet
      refine ⟨?_, rfl⟩
      unfold many
      first | rw [show ((min (max n 0) 64).toNat : Int) = 0 from by omega] | rw [show ((min (max n 0) 64).toNat : Int) = 64 from by omega] | rw [show ((min (max n 0) 64).toNat : Int) = n from by omega]
  case rest =>
    obtain ⟨rfl, hw⟩ := hcut
    have hw := hw.symm
    subst hw
    have hN : many n ≤ 64 := by unfold many; omega
    generalize hNN : many n = N at *
    have HN := Lib.hid hNN
    clear hNN
    have hlm : N ≤ maxLen := by unfold maxLen; omega
    have hb2 : j0.bytes * N ≤ 281474976710656 := by rw [jz2]; omega
    go_wp2_with (at_make; refine wpList_make_full _ rfl _ _ 100 rfl w.heap.size 123 j0 (.slice none 0 0) 1 Try.underlying100 hj jz0 jz1 _ _ _ _ N rfl rfl rfl rfl hb2 hlm (Nat.le_refl _) ?_)
    intro w1 hown hgrow
    rw [toList_madeCells_one] at hown
    have F1 : Fr nob w w1 := Fr.of_grown hgrow
    have lw : w.heap.size < w1.heap.size := by
      rcases ownsRow_block hown (g := w.heap.size) rfl with ⟨_, c, hc⟩
      exact hc.lt
    have HB := Lib.hid (Blk.new w1 102 #[.int .i64 0, .slice none 0 0, .slice (some ⟨w.heap.size, 0, none⟩) N N])
    have HO := Lib.hid hown
    have HF := Lib.hid F1
    clear hown hgrow F1 hb2 hw
    go_wp2_with fail
    go_loopw [12] (fun i wr => ∃ (k : Nat) (vs : Value), k ≤ N ∧ i = .int .i64 k ∧ Fr nob w wr ∧ Blk wr w1.heap.size 102 #[.int .i64 0, vs, .slice (some ⟨w.heap.size, 0, none⟩) N N] ∧
      wr.ownsRow w.heap.size 2 1 vs k (List.replicate k (.int .i64 (-1))) ∧ wr.ownsRow w.heap.size 123 1 (.slice (some ⟨w.heap.size, 0, none⟩) N N) N (List.replicate N (.slice none 0 0))) (fun i _ => N - (intOf i).toNat)
    case atStart => exact ⟨0, _, Nat.zero_le _, rfl, HF.out.alloc _, HB.out, ⟨rfl, .inl ⟨rfl, rfl⟩⟩, ownsRow_fr HO.out ((Fr.refl nob _).alloc _) (fun _ _ x => x)⟩
    case round =>
      obtain ⟨k, vs, hk, rfl, F2, B2, O2, O3⟩ := hrel
      obtain ⟨av, cv, rfl⟩ := form_own O2
      have c1 : wr.cell? ⟨w1.heap.size, 1, none⟩ = some (.slice av k cv) := B2.cell 1
      have lb := B2.lt
      by_cases hlt : k < N
      · have hlm : k + 1 ≤ maxLen := by unfold maxLen; omega
        have hlb : (k + 1) * 8 ≤ 140737488355328 := by omega
        have hnt : (Value.slice av k cv).ownBlock ≠ some w1.heap.size := fun hx => by
          obtain ⟨_, c, hc⟩ := ownsRow_block O2 hx
          exact hc.ne B2 (by decide) rfl
        have lww : w.heap.size ≤ wr.heap.size := F2.size
        go_wp2_with (at_builtin; refine wpList_append_lies _ rfl _ _ _ rfl w.heap.size 2 i0 (.int .i64 0) 1 8 Try.underlying35 hi hz0 hz1 hz2 rfl (by decide) (.slice av k cv) k (List.replicate k (.int .i64 (-1))) rfl (O2.alloc _) ⟨wr.heap.size, 0, none⟩ 1 1 [.int .i64 (-1)] rfl rfl (World.news_of_block (cs := #[.int .i64 (-1)]) (t := 2) (fr := (0, 0)) (by exact Blk.new _ _ _)) (by simp [Value.oneCell']) (by decide) hlm hlb (by simp; omega) (wr.heap.size + 1) (by simp) ?_)
        intro g cap w3 hown hgrow hat hlt3
        have B3 := (B2.alloc (.cells #[.int .i64 (-1)] 2)).grown hgrow hnt
        have y0 : w3.cell? ⟨w1.heap.size, 1, none⟩ = some (.slice av k cv) := B3.cell 1
        have y1 : w3.frozen? ⟨w1.heap.size, 1, none⟩ = false := B3.froz 1
        have F3 : Fr (fun j => (Value.slice av k cv).ownBlock = some j) wr w3 := ((Fr.refl _ wr).alloc _).grown hgrow (fun j hj => .inl hj)
        have Fs := (Fr.refl (fun j => j = w1.heap.size) w3).setCell (p := ⟨w1.heap.size, 1, none⟩) (.inl rfl) (.slice (some ⟨g, 0, none⟩) (k + 1) cap)
        have R1 : Fr nob w (w3.setCell ⟨w1.heap.size, 1, none⟩ (.slice (some ⟨g, 0, none⟩) (k + 1) cap)) := (F2.trans F3 (fun j hj hx => by have := (ownsRow_block O2 hx).1; omega)).trans Fs (fun j hj hx => by omega)
        have R2 := B3.set 1 (.slice (some ⟨g, 0, none⟩) (k + 1) cap)
        have R3 : (w3.setCell ⟨w1.heap.size, 1, none⟩ (.slice (some ⟨g, 0, none⟩) (k + 1) cap)).ownsRow w.heap.size 2 1 (.slice (some ⟨g, 0, none⟩) (k + 1) cap) (k + 1) (List.replicate (k + 1) (.int .i64 (-1))) := by
          rw [List.replicate_succ']
          exact ownsRow_fr hown Fs (fun j hj hx => by obtain ⟨_, c, hc⟩ := ownsRow_block hown hj; exact hc.ne B3 (by decide) hx)
        have R4 : (w3.setCell ⟨w1.heap.size, 1, none⟩ (.slice (some ⟨g, 0, none⟩) (k + 1) cap)).ownsRow w.heap.size 123 1 (.slice (some ⟨w.heap.size, 0, none⟩) N N) N (List.replicate N (.slice none 0 0)) := by
          refine ownsRow_fr (ownsRow_fr O3 F3 (fun j hj hx => ?_)) Fs (fun j hj hx => ?_)
          · obtain ⟨_, c, hc⟩ := ownsRow_block O2 hx
            obtain ⟨_, c', hc'⟩ := ownsRow_block O3 hj
            exact hc.ne hc' (by decide) rfl
          · simp [Value.ownBlock] at hj; omega
        have RR := Lib.hid (And.intro R1 (And.intro R2 (And.intro R3 R4)))
        clear R1 R2 R3 R4 F3 Fs hown hgrow hat B3 O2 O3 B2 F2 c1
        go_wp2
        obtain ⟨R1, R2, R3, R4⟩ := RR.out
        exact ⟨⟨k + 1, _, by omega, by go_num, R1, R2, R3, R4⟩, by simp [intOf]; omega⟩
      · obtain rfl : k = N := by omega
        have hE : Epo wr w1.heap.size (wide nob w wr) 0 (List.replicate k (-1)) (List.replicate k []) := by
          refine ⟨⟨.slice av k cv, .slice (some ⟨w.heap.size, 0, none⟩) k k, List.replicate k (.slice none 0 0), B2, ?_, ?_, ?_, ?_, ?_, ?_⟩, .inr ⟨Nat.le_of_lt lw, lb⟩, ?_, by simp, by simp; exact hN⟩
          · rw [List.length_replicate, List.map_replicate]; exact ownsRow_base O2 (Nat.zero_le _)
          · intro g hg
            obtain ⟨hx, c, hc⟩ := ownsRow_block O2 hg
            exact .inr ⟨hx, hc.lt⟩
          · rw [List.length_replicate]; exact ownsRow_base O3 (Nat.zero_le _)
          · intro g hg
            obtain ⟨hx, c, hc⟩ := ownsRow_block O3 hg
            exact .inr ⟨hx, hc.lt⟩
          · intro i l hi'
            have hik : i < k := by
              have := (List.getElem?_eq_some_iff.1 hi').1
              simpa using this
            simp [List.getElem?_replicate, hik] at hi'
            subst hi'
            exact ⟨.slice none 0 0, by simp [hik], QRow.nil _ _ _, fun g hg => by simp [Value.ownBlock] at hg⟩
          · intro i j q q' g e1 e2 b1 b2
            have : q = .slice none 0 0 := by
              rw [List.getElem?_replicate] at e1
              split at e1
              · simpa using e1.symm
              · cases e1
            subst this
            simp [Value.ownBlock] at b1
          · rintro j (hj | hj)
            · exact hj.elim
            · exact hj.2
        have EE := Lib.hid hE
        clear hE O2 O3 B2 c1 hk hlt
        go_wp2
        go_ret
        exact ⟨_, rfl, F2, by rw [HN.out]; exact EE.out⟩
end Go.Proofs.Ythkohomogknddaa
namespace Go.Proofs.Ythkohomogknddaa
open Go Go.RowKit
set_option maxRecDepth 100000
set_option linter.unusedVariables false
set_option linter.unusedSimpArgs false
theorem set_same {α : Type} (l : List α) (i : Nat) (x : α) (h : l[i]? = some x) : l.set i x = l := by
  obtain ⟨hi, rfl⟩ := List.getElem?_eq_some_iff.1 h
  exact List.set_getElem_self hi
theorem Epo.wider {S F : Nat → Prop} {w w' : World} {b : Nat} {now : Int} {said : List Int} {limbo : List (List (Int × Int))} (h : Epo w b S now said limbo) (hf : Fr F w w') (hn : ∀ k, S k → ¬ F k) : Epo w' b (wide S w w') now said limbo :=
  (h.fr hf hn).more (fun k hk => .inl hk) (fun k hk => by
    rcases hk with hk | hk
    · exact (h.fr hf hn).lt k hk
    · exact hk.2)
theorem Ready_ask {S : Nat → Prop} {w : World} {b : Nat} {now : Int} {said : List Int} {limbo : List (List (Int × Int))} (h : Epo w b S now said limbo) (t n : Int) (ht : isT t said.length = true) (node at_ : Int) (l : List (Int × Int)) (hl0 : limbo[t.toNat]? = some ((node, at_) :: l))
    (hn : -9223372036854775808 ≤ n ∧ n ≤ 9223372036854775807) (ha : -9223372036854775808 ≤ at_ ∧ at_ ≤ 9223372036854775807) :
    Calls Try.prog 44 #[.pointer (some ⟨b, 0, none⟩), .int .i64 t, .int .i64 n] w fun e w' => Fr S w w' ∧
      ((ripe at_ n = true ∧ e = .returned (.int .i64 node) ∧ Epo w' b (wide S w w') now said (limbo.set t.toNat l)) ∨ (ripe at_ n = false ∧ e = .returned (.int .i64 0) ∧ Epo w' b (wide S w w') now said limbo)) := by
  by_cases h1 : at_ ≤ n
  · by_cases h2 : 3 ≤ n - at_
    · refine (Ready_ripe h t n ht node at_ l hl0 hn ha h1 h2).mono ?_
      rintro e w' ⟨rfl, F, E⟩
      exact ⟨F, .inl ⟨by simp [ripe]; omega, rfl, E⟩⟩
    · refine (Ready_soon h t n ht node at_ l hl0 hn ha h1 (by omega)).mono ?_
      rintro e w' ⟨rfl, F⟩
      exact ⟨F.mono (fun _ _ x => x.elim), .inr ⟨by simp [ripe]; omega, rfl, h.wider F (fun _ _ x => x)⟩⟩
  · refine (Ready_low h t n ht node at_ l hl0 hn ha (by omega)).mono ?_
    rintro e w' ⟨rfl, F⟩
    exact ⟨F.mono (fun _ _ x => x.elim), .inr ⟨by simp [ripe]; omega, rfl, h.wider F (fun _ _ x => x)⟩⟩
/-- Epochs: the epoch, what each announced, what each let go. -/
structure Ep where
  now : Int
  said : List Int
  limbo : List (List (Int × Int))
def epoP (b : Nat) (s : Ep) : Piece := ⟨fun w S => Epo w b S s.now s.said s.limbo, fun h hf hn _ => h.fr hf hn⟩
/-- What Take, and Ready, tell and leave. -/
def takeEp (t n : Int) (s : Ep) : Int × Ep :=
  if isT t s.said.length = true then
    match s.limbo[t.toNat]? with
    | some ((node, a) :: l) => if ripe a n = true then (node, { s with limbo := s.limbo.set t.toNat l }) else (0, s)
    | _ => (0, s)
  else (0, s)
def leaveEp (t node a : Int) (s : Ep) : Ep := if isT t s.said.length = true then { s with limbo := s.limbo.set t.toNat (s.limbo.getD t.toNat [] ++ [(node, a)]) } else s
def sayEp (t n : Int) (s : Ep) : Ep := { s with said := if isT t s.said.length = true then s.said.set t.toNat n else s.said }
def swapEp (n : Int) (s : Ep) : Ep := { s with now := if s.now = n then s.now + 1 else s.now }
def saidEp (t : Int) (s : Ep) : Int := if isT t s.said.length = true then s.said.getD t.toNat 0 else -1
/-- What is so of all. -/
structure OkEp (s : Ep) (k : Nat) : Prop where
  nb : 0 ≤ s.now ∧ s.now ≤ k
  ats : ∀ l ∈ s.limbo, ∀ p ∈ l, -9223372036854775808 ≤ p.2 ∧ p.2 ≤ 9223372036854775807
  few : waits s.limbo ≤ k
  same : s.said.length = s.limbo.length
theorem waits_set (limbo : List (List (Int × Int))) (i : Nat) (l l' : List (Int × Int)) (h : limbo[i]? = some l) : waits (limbo.set i l') + l.length = waits limbo + l'.length := by
  induction limbo generalizing i with
  | nil => simp at h
  | cons x xs ih =>
    cases i with
    | zero =>
      simp at h; subst h
      simp [waits]; omega
    | succ i =>
      simp at h
      have := ih i h
      simp [waits] at this ⊢; omega
theorem waits_get (limbo : List (List (Int × Int))) (i : Nat) (l : List (Int × Int)) (h : limbo[i]? = some l) : l.length ≤ waits limbo := by
  have := waits_set limbo i l [] h
  simp at this; omega
theorem OkEp.more {s : Ep} {k k' : Nat} (h : OkEp s k) (hk : k ≤ k') : OkEp s k' := ⟨⟨h.nb.1, by have := h.nb.2; omega⟩, h.ats, by have := h.few; omega, h.same⟩
theorem isT_get {s : Ep} {k : Nat} (h : OkEp s k) {t : Int} (ht : isT t s.said.length = true) : ∃ l, s.limbo[t.toNat]? = some l := by
  obtain ⟨t0, t1⟩ := isT_true ht
  have := h.same
  exact ⟨_, List.getElem?_eq_getElem (by omega)⟩
theorem OkEp.take {s : Ep} {k : Nat} (h : OkEp s k) (t n : Int) : OkEp (takeEp t n s).2 k ∧ (takeEp t n s).2.said.length = s.said.length := by
  unfold takeEp
  split
  · split
    · rename_i node a l hl
      split
      · refine ⟨⟨h.nb, fun x hx p hp => ?_, ?_, by simpa using h.same⟩, rfl⟩
        · rcases List.mem_or_eq_of_mem_set hx with hx | rfl
          · exact h.ats x hx p hp
          · exact h.ats _ (List.mem_of_getElem? hl) p (List.mem_cons_of_mem _ hp)
        · have := waits_set s.limbo t.toNat _ l hl
          have := h.few
          simp only [List.length_cons] at *
          show waits (s.limbo.set t.toNat l) ≤ k
          omega
      · exact ⟨h, rfl⟩
    · exact ⟨h, rfl⟩
  · exact ⟨h, rfl⟩
theorem OkEp.leave {s : Ep} {k : Nat} (h : OkEp s k) (t node a : Int) (ha : -9223372036854775808 ≤ a ∧ a ≤ 9223372036854775807) : OkEp (leaveEp t node a s) (k + 1) ∧ (leaveEp t node a s).said.length = s.said.length := by
  unfold leaveEp
  split
  · rename_i ht
    obtain ⟨l, hl⟩ := isT_get h ht
    have hg : s.limbo.getD t.toNat [] = l := by simp [List.getD, hl]
    rw [hg]
    refine ⟨⟨⟨h.nb.1, by have := h.nb.2; show s.now ≤ _; omega⟩, fun x hx p hp => ?_, ?_, by simpa using h.same⟩, rfl⟩
    · rcases List.mem_or_eq_of_mem_set hx with hx | rfl
      · exact h.ats x hx p hp
      · rcases List.mem_append.1 hp with hp | hp
        · exact h.ats _ (List.mem_of_getElem? hl) p hp
        · simp at hp; subst hp; exact ha
    · have := waits_set s.limbo t.toNat _ (l ++ [(node, a)]) hl
      have := h.few
      simp only [List.length_append, List.length_cons, List.length_nil] at *
      show waits (s.limbo.set t.toNat _) ≤ _
      omega
  · exact ⟨h.more (Nat.le_succ k), rfl⟩
theorem OkEp.say {s : Ep} {k : Nat} (h : OkEp s k) (t n : Int) : OkEp (sayEp t n s) k ∧ (sayEp t n s).said.length = s.said.length := by
  have e : (sayEp t n s).said.length = s.said.length := by unfold sayEp; dsimp only; split <;> simp
  exact ⟨⟨h.nb, h.ats, h.few, e.trans h.same⟩, e⟩
theorem OkEp.swap {s : Ep} {k : Nat} (h : OkEp s k) (n : Int) : OkEp (swapEp n s) (k + 1) := by
  refine ⟨?_, h.ats, by have := h.few; show waits s.limbo ≤ _; omega, h.same⟩
  have := h.nb
  unfold swapEp; dsimp only
  split <;> omega
section
variable {w0 w : World} {l : List Piece} {b : Nat} {s : Ep} {k : Nat}
theorem Ready_h (h : Heap w0 w l) (i : Nat) (hi : l[i]? = some (epoP b s)) (ok : OkEp s k) (t n : Int) (hn : -9223372036854775808 ≤ n ∧ n ≤ 9223372036854775807) :
    Calls Try.prog 44 #[.pointer (some ⟨b, 0, none⟩), .int .i64 t, .int .i64 n] w fun e w' => e = .returned (.int .i64 (takeEp t n s).1) ∧ Heap w0 w' (l.set i (epoP b (takeEp t n s).2)) := by
  obtain ⟨S, hS, _, U⟩ := h.take i hi
  cases ht : isT t s.said.length with
  | false =>
    have e0 : takeEp t n s = (0, s) := by unfold takeEp; rw [if_neg (by rw [ht]; simp)]
    rw [e0]
    refine (Ready_none hS t n (.inl ht)).mono ?_
    rintro e w' ⟨rfl, rfl⟩
    exact ⟨rfl, U (Fr.refl _ _) hS (fun _ x => .inl x)⟩
  | true =>
    obtain ⟨q, hq⟩ := isT_get ok ht
    cases q with
    | nil =>
      have e0 : takeEp t n s = (0, s) := by unfold takeEp; rw [if_pos ht, hq]
      rw [e0]
      refine (Ready_none hS t n (.inr hq)).mono ?_
      rintro e w' ⟨rfl, rfl⟩
      exact ⟨rfl, U (Fr.refl _ _) hS (fun _ x => .inl x)⟩
    | cons p q =>
      obtain ⟨node, a⟩ := p
      have ha := ok.ats _ (List.mem_of_getElem? hq) (node, a) List.mem_cons_self
      refine (Ready_ask hS t n ht node a q hq hn ha).mono ?_
      rintro e w' ⟨F, ⟨hr, rfl, E⟩ | ⟨hr, rfl, E⟩⟩
      · have e0 : takeEp t n s = (node, { s with limbo := s.limbo.set t.toNat q }) := by unfold takeEp; rw [if_pos ht, hq]; simp only; rw [if_pos hr]
        rw [e0]
        exact ⟨rfl, U (p' := epoP b { s with limbo := s.limbo.set t.toNat q }) F E (fun _ x => x)⟩
      · have e0 : takeEp t n s = (0, s) := by unfold takeEp; rw [if_pos ht, hq]; simp only; rw [if_neg (by rw [hr]; simp)]
        rw [e0]
        exact ⟨rfl, U (p' := epoP b s) F E (fun _ x => x)⟩
theorem Leave_h (h : Heap w0 w l) (i : Nat) (hi : l[i]? = some (epoP b s)) (ok : OkEp s k) (hk : k ≤ 1000000) (t node a : Int) :
    Calls Try.prog 31 #[.pointer (some ⟨b, 0, none⟩), .int .i64 t, .int .i64 node, .int .i64 a] w fun e w' => e = .returned (.tuple #[]) ∧ Heap w0 w' (l.set i (epoP b (leaveEp t node a s))) := by
  obtain ⟨S, hS, _, U⟩ := h.take i hi
  cases ht : isT t s.said.length with
  | false =>
    have e0 : leaveEp t node a s = s := by unfold leaveEp; rw [if_neg (by rw [ht]; simp)]
    rw [e0]
    refine (Leave_no hS t node a ht).mono ?_
    rintro e w' ⟨rfl, rfl⟩
    exact ⟨rfl, U (Fr.refl _ _) hS (fun _ x => .inl x)⟩
  | true =>
    obtain ⟨q, hq⟩ := isT_get ok ht
    have e0 : leaveEp t node a s = { s with limbo := s.limbo.set t.toNat (q ++ [(node, a)]) } := by
      unfold leaveEp; rw [if_pos ht]; simp [List.getD, hq]
    rw [e0]
    have hw := waits_get s.limbo _ _ hq
    have := ok.few
    refine (Leave_yes hS t node a ht q hq (by omega)).mono ?_
    rintro e w' ⟨rfl, F, E⟩
    exact ⟨rfl, U (p' := epoP b { s with limbo := s.limbo.set t.toNat (q ++ [(node, a)]) }) F E (fun _ x => x)⟩
theorem Say_h (h : Heap w0 w l) (i : Nat) (hi : l[i]? = some (epoP b s)) (t n : Int) :
    Calls Try.prog 18 #[.pointer (some ⟨b, 0, none⟩), .int .i64 t, .int .i64 n] w fun e w' => e = .returned (.tuple #[]) ∧ Heap w0 w' (l.set i (epoP b (sayEp t n s))) := by
  obtain ⟨S, hS, _, U⟩ := h.take i hi
  refine (Say_calls hS t n).mono ?_
  rintro e w' ⟨rfl, F, E⟩
  exact ⟨rfl, U (p' := epoP b (sayEp t n s)) F E (fun _ x => .inl x)⟩
theorem Swap_h (h : Heap w0 w l) (i : Nat) (hi : l[i]? = some (epoP b s)) (n : Int) (hb : 0 ≤ s.now ∧ s.now ≤ 9000000000000000000) :
    Calls Try.prog 17 #[.pointer (some ⟨b, 0, none⟩), .int .i64 n] w fun e w' => e = .returned (.bool (decide (s.now = n))) ∧ Heap w0 w' (l.set i (epoP b (swapEp n s))) := by
  obtain ⟨S, hS, _, U⟩ := h.take i hi
  refine (Swap_calls hS n hb).mono ?_
  rintro e w' ⟨rfl, F, E⟩
  exact ⟨rfl, U (p' := epoP b (swapEp n s)) F E (fun _ x => .inl x)⟩
theorem Said_h (h : Heap w0 w l) (i : Nat) (hi : l[i]? = some (epoP b s)) (t : Int) :
    Calls Try.prog 24 #[.pointer (some ⟨b, 0, none⟩), .int .i64 t] w fun e w' => e = .returned (.int .i64 (saidEp t s)) ∧ w' = w := by
  obtain ⟨S, hS, _⟩ := h.get i hi
  exact Said_calls hS t
theorem Now_h (h : Heap w0 w l) (i : Nat) (hi : l[i]? = some (epoP b s)) : Calls Try.prog 23 #[.pointer (some ⟨b, 0, none⟩)] w fun e w' => e = .returned (.int .i64 s.now) ∧ w' = w := by
  obtain ⟨S, hS, _⟩ := h.get i hi
  exact Now_calls hS
theorem Len_h (h : Heap w0 w l) (i : Nat) (hi : l[i]? = some (epoP b s)) : Calls Try.prog 50 #[.pointer (some ⟨b, 0, none⟩)] w fun e w' => e = .returned (.int .i64 s.said.length) ∧ w' = w := by
  obtain ⟨S, hS, _⟩ := h.get i hi
  exact EpLen_calls hS
theorem Limbo_h (h : Heap w0 w l) (i : Nat) (hi : l[i]? = some (epoP b s)) (hw : waits s.limbo ≤ 1000000000) : Calls Try.prog 34 #[.pointer (some ⟨b, 0, none⟩)] w fun e w' => e = .returned (.int .i64 (waits s.limbo)) ∧ w' = w := by
  obtain ⟨S, hS, _⟩ := h.get i hi
  exact Limbo_calls hS hw
end
end Go.Proofs.Ythkohomogknddaa
