/- The epochs' Say, Leave, Ready. No condition but that there are such epochs, and that what waits is not too much. -/
import Derived.Test.YtnoioldbddjkiaaEpoA
import Derived.Deep.RegionWith
namespace Go.Proofs.Ytnoioldbddjkiaa
open Go Go.RowKit
set_option linter.unusedVariables false
set_option linter.unusedSimpArgs false
/-- An owned row in which one cell is another one. -/
theorem ownsRow_set {w : World} {B : Nat} {t : TypeId} {g n cap : Nat} {us : List Value} (h : w.ownsRow B t 1 (.slice (some ⟨g, 0, none⟩) n cap) n us) (i : Nat) (hi : i < n) (x : Value) :
    (w.setCell ⟨g, i, none⟩ x).ownsRow B t 1 (.slice (some ⟨g, 0, none⟩) n cap) n (us.set i x) := by
  refine ⟨by rw [List.length_set]; exact h.1, ?_⟩
  rcases h.2 with ⟨h0, _⟩ | ⟨g', cap', cur, hv, hb, hh, hc, hm, hs, ht⟩
  · cases h0
  · simp only [Value.slice.injEq, Option.some.injEq, Addr.mk.injEq] at hv
    obtain ⟨⟨rfl, _⟩, _, rfl⟩ := hv
    have hB : Blk w g t cur := hh
    refine .inr ⟨g, cap, cur.setIfInBounds i x, rfl, hb, hB.set i x, hc, hm, by simpa using hs, ?_⟩
    rw [← ht, Array.toList_setIfInBounds, List.take_set]
theorem ownsRow_get {w : World} {B : Nat} {t : TypeId} {g n cap : Nat} {us : List Value} (h : w.ownsRow B t 1 (.slice (some ⟨g, 0, none⟩) n cap) n us) (i : Nat) (u : Value) (hu : us[i]? = some u) :
    w.cell? ⟨g, i, none⟩ = some u ∧ w.frozen? ⟨g, i, none⟩ = false ∧ i < n := by
  rcases row_cells h with ⟨h0, _, _⟩ | ⟨g', cap', cur, hv, _, hg, _, _, _, hl, hj⟩
  · cases h0
  · simp only [Value.slice.injEq, Option.some.injEq, Addr.mk.injEq] at hv
    obtain ⟨⟨rfl, _⟩, _, rfl⟩ := hv
    have hi : i < n := by
      have := (List.getElem?_eq_some_iff.1 hu).1
      omega
    exact ⟨by rw [hg.cell, hj i hi]; exact hu, hg.froz i, hi⟩
theorem ownsRow_form {w : World} {B : Nat} {t : TypeId} {v : Value} {n : Nat} {us : List Value} (h : w.ownsRow B t 1 v n us) (hn : 0 < n) : ∃ g cap, v = .slice (some ⟨g, 0, none⟩) n cap := by
  rcases row_cells h with ⟨_, h0, _⟩ | ⟨g, cap, cur, hv, _⟩
  · omega
  · exact ⟨g, cap, hv⟩
theorem Say_nil (t n : Int) (w : World) : Calls Try.prog 19 #[.pointer none, .int .i64 t, .int .i64 n] w fun e w' => e = .returned (.tuple #[]) ∧ w' = w := by
  have hi := Lib.hid (in_nil t w)
  go_enter Try.func19, Try.ntmps19
  go_wp2_with (go_at_call 23; refine hi.out.mono ?_; rintro e w' ⟨rfl, rfl⟩)
  go_end0
  exact ⟨rfl, rfl⟩
theorem Say_calls {S : Nat → Prop} {w : World} {b : Nat} {now : Int} {said : List Int} {limbo : List (List (Int × Int))} (h : Epo w b S now said limbo) (t n : Int) :
    Calls Try.prog 19 #[.pointer (some ⟨b, 0, none⟩), .int .i64 t, .int .i64 n] w fun e w' => e = .returned (.tuple #[]) ∧ Fr S w w' ∧ Epo w' b S now (if isT t said.length then said.set t.toNat n else said) limbo := by
  have H := Lib.hid h
  have hi := Lib.hid (in_calls h t)
  obtain ⟨⟨vs, vl, qs, h1, h2, h3, h4, h5, h6, h7⟩, hh, hl, hs, hw⟩ := h
  cases ht : isT t said.length with
  | false =>
    rw [ht] at hi
    clear h1 h2 h3 h4 h5 h6 h7 hl hs ht
    go_enter Try.func19, Try.ntmps19
    go_wp2_with (go_at_call 23; refine hi.out.mono ?_; rintro e w' ⟨rfl, rfl⟩)
    go_end0
    exact ⟨rfl, Fr.refl _ _, H.out⟩
  | true =>
    rw [ht] at hi
    obtain ⟨t0, t1⟩ := isT_true ht
    obtain ⟨g, cap, rfl⟩ := ownsRow_form h2 (by omega)
    have hlt : t.toNat < said.length := by omega
    obtain ⟨c2, f2, _⟩ := ownsRow_get h2 t.toNat (.int .i64 (said.getD t.toNat 0)) (by simp [hlt, List.getD])
    have c1 : w.cell? ⟨b, 1, none⟩ = some (.slice (some ⟨g, 0, none⟩) said.length cap) := h1.cell 1
    have F := (Fr.refl (fun k => k = g) w).setCell (p := ⟨g, t.toNat, none⟩) (.inl rfl) (.int .i64 n)
    obtain ⟨_, cg, hg⟩ := ownsRow_block h2 (g := g) rfl
    have E : Epo (w.setCell ⟨g, t.toNat, none⟩ (.int .i64 n)) b S now (said.set t.toNat n) limbo := by
      refine ⟨⟨_, vl, qs, h1.fr F (fun hx => hg.ne h1 (by decide) hx.symm), ?_, h3, ownsRow_fr h4 F (fun k hk hx => ?_), h5, fun i l hi => ?_, h7⟩, hh, fun k hk => by simpa [World.setCell] using hl k hk, by rw [List.length_set]; exact hs, by rw [List.length_set]; exact hw⟩
      · rw [List.length_set, List.map_set]
        exact ownsRow_set h2 t.toNat hlt _
      · obtain ⟨_, c, hc⟩ := ownsRow_block h4 hk; exact hc.ne hg (by decide) hx
      · obtain ⟨q, hq, hr, hgq⟩ := h6 i l hi
        have hb : ∀ k, q.ownBlock = some k → k ≠ g := fun k hx => by obtain ⟨_, c, hc⟩ := hgq k hx; exact hc.ne hg (by decide)
        exact ⟨q, hq, hr.fr F (fun k hx _ => hb k hx), fun k hx => ⟨(hgq k hx).1, by obtain ⟨_, c, hc⟩ := hgq k hx; exact ⟨c, hc.fr F (hb k hx)⟩⟩⟩
    have EE := Lib.hid E
    have hSg := h3 g rfl
    clear E h1 h2 h3 h4 h5 h6 h7 hl hs F hg ht hw hlt
    go_enter Try.func19, Try.ntmps19
    go_wp2_with (go_at_call 23; refine hi.out.mono ?_; rintro e w' ⟨rfl, rfl⟩)
    go_end0
    exact ⟨rfl, (Fr.refl _ _).setCell (.inl hSg) _, EE.out⟩
/-- One thread's nodes are others. -/
theorem Epo_put {S : Nat → Prop} {w w1 : World} {b : Nat} {now : Int} {said : List Int} {limbo : List (List (Int × Int))} {vs : Value} {gl cl : Nat} {qs : List Value} (h1 : Blk w b 57 #[.int .i64 now, vs, .slice (some ⟨gl, 0, none⟩) limbo.length cl]) (h2 : w.ownsRow 0 2 1 vs said.length (said.map (Value.int .i64))) (h3 : ∀ g, vs.ownBlock = some g → S g)
    (h4 : w.ownsRow 0 59 1 (.slice (some ⟨gl, 0, none⟩) limbo.length cl) limbo.length qs) (h5 : ∀ g, (Value.slice (some ⟨gl, 0, none⟩) limbo.length cl).ownBlock = some g → S g)
    (h6 : ∀ (i : Nat) (l : List (Int × Int)), limbo[i]? = some l → ∃ q, qs[i]? = some q ∧ QRow w 61 2 q l.length (goneC l) ∧ ∀ g, q.ownBlock = some g → S g ∧ ∃ c, Blk w g 61 c)
    (h7 : ∀ (i j : Nat) (q q' : Value) (g : Nat), qs[i]? = some q → qs[j]? = some q' → q.ownBlock = some g → q'.ownBlock = some g → i = j)
    (hh : S b) (hl : ∀ k, S k → k < w.heap.size) (hs : said.length = limbo.length) (hw : said.length ≤ 64)
    {i : Nat} {q q' : Value} {l' : List (Int × Int)} (hi : i < limbo.length) (hq : qs[i]? = some q) (Fg : Fr (fun k => q.ownBlock = some k) w w1) (hq' : QRow w1 61 2 q' l'.length (goneC l')) (hb' : ∀ g, q'.ownBlock = some g → (q.ownBlock = some g ∨ w.heap.size ≤ g) ∧ ∃ c, Blk w1 g 61 c) :
    Fr S w (w1.setCell ⟨gl, i, none⟩ q') ∧ Epo (w1.setCell ⟨gl, i, none⟩ q') b (wide S w (w1.setCell ⟨gl, i, none⟩ q')) now said (limbo.set i l') := by
  obtain ⟨_, cg, hg⟩ := ownsRow_block h4 (g := gl) rfl
  have hlq : qs.length = limbo.length := by have := h4.1; simpa using this
  obtain ⟨l0, hl0⟩ : ∃ l0, limbo[i]? = some l0 := ⟨_, List.getElem?_eq_getElem hi⟩
  obtain ⟨qq, hqq, hr0, hg0⟩ := h6 i l0 hl0
  obtain rfl : qq = q := by rw [hq] at hqq; simpa using hqq.symm
  have nb : ∀ k, qq.ownBlock = some k → ∀ (T : TypeId) (c : Array Value) (x : Nat), Blk w x T c → T ≠ 61 → x ≠ k := fun k hk T c x hx hT => by
    obtain ⟨_, c', hc'⟩ := hg0 k hk
    exact hx.ne hc' hT
  have O4 : w1.ownsRow 0 59 1 (.slice (some ⟨gl, 0, none⟩) limbo.length cl) limbo.length qs := ownsRow_fr h4 Fg (fun k hk hx => by
    obtain ⟨_, c, hc⟩ := ownsRow_block h4 hk; exact nb k hx _ _ _ hc (by decide) rfl)
  have hg1 : Blk w1 gl 59 cg := hg.fr Fg (fun hx => nb gl hx _ _ _ hg (by decide) rfl)
  have Fs := (Fr.refl (fun k => k = gl) w1).setCell (p := ⟨gl, i, none⟩) (.inl rfl) q'
  have O5 := ownsRow_set O4 i hi q'
  generalize hw' : w1.setCell ⟨gl, i, none⟩ q' = w' at *
  have s' : w'.heap.size = w1.heap.size := by rw [← hw']; simp [World.setCell]
  have F' : Fr (fun k => k = gl ∨ qq.ownBlock = some k) w w' := (Fg.mono (fun _ _ x => .inr x)).trans Fs (fun k _ hk => .inl hk)
  have hgS : S gl := h5 gl rfl
  refine ⟨F'.mono (fun k _ hk => ?_), ⟨⟨vs, .slice (some ⟨gl, 0, none⟩) limbo.length cl, qs.set i q', ?_, ?_, fun g hg => .inl (h3 g hg), ?_, ?_, ?_, ?_⟩, .inl hh, ?_, by rw [List.length_set]; exact hs, hw⟩⟩
  · rcases hk with rfl | hk
    · exact hgS
    · exact (hg0 k hk).1
  · exact h1.fr F' (fun hx => by rcases hx with hx | hx; exact h1.ne hg (by decide) hx; exact nb _ hx _ _ _ h1 (by decide) rfl)
  · exact ownsRow_fr h2 F' (fun k hk hx => by
      obtain ⟨_, c, hc⟩ := ownsRow_block h2 hk
      rcases hx with hx | hx
      · exact hc.ne hg (by decide) hx
      · exact nb _ hx _ _ _ hc (by decide) rfl)
  · rw [List.length_set]; exact O5
  · exact fun g hg => .inl (h5 g hg)
  · intro j l hj
    by_cases hij : i = j
    · subst hij
      rw [List.getElem?_set_self hi] at hj
      simp only [Option.some.injEq] at hj
      subst hj
      refine ⟨q', List.getElem?_set_self (by omega), hq'.fr Fs (fun k _ hc hx => by obtain ⟨c, hc⟩ := hc; exact hc.ne hg1 (by decide) hx), fun g hg2 => ?_⟩
      obtain ⟨hx, c, hc⟩ := hb' g hg2
      refine ⟨?_, c, hc.fr Fs (fun hx => hc.ne hg1 (by decide) hx)⟩
      rcases hx with hx | hx
      · exact .inl (hg0 g hx).1
      · exact .inr ⟨hx, by rw [s']; exact hc.lt⟩
    · rw [List.getElem?_set_ne hij] at hj
      obtain ⟨q2, hq2, hr2, hg2⟩ := h6 j l hj
      have no : ∀ k, q2.ownBlock = some k → ¬ (k = gl ∨ qq.ownBlock = some k) := fun k hk hx => by
        rcases hx with hx | hx
        · obtain ⟨_, c, hc⟩ := hg2 k hk; exact hc.ne hg (by decide) hx
        · exact hij (h7 i j qq q2 k hq hq2 hx hk)
      refine ⟨q2, by rw [List.getElem?_set_ne hij]; exact hq2, hr2.fr F' (fun k hk _ => no k hk), fun g hx => ⟨.inl (hg2 g hx).1, ?_⟩⟩
      obtain ⟨_, c, hc⟩ := hg2 g hx
      exact ⟨c, hc.fr F' (no g hx)⟩
  · intro i1 j1 q1 q2 g e1 e2 b1 b2
    have old : ∀ j q2 k, j ≠ i → qs[j]? = some q2 → q2.ownBlock = some k → q'.ownBlock = some k → False := fun j q2 k hj hq2 hk hk' => by
      have hjl : j < limbo.length := by rw [← hlq]; exact (List.getElem?_eq_some_iff.1 hq2).1
      obtain ⟨q3, hq3, _, hg3⟩ := h6 j _ (List.getElem?_eq_getElem hjl)
      obtain rfl : q3 = q2 := by rw [hq2] at hq3; simpa using hq3.symm
      rcases (hb' k hk').1 with hx | hx
      · exact hj (h7 j i q3 qq k hq2 hq hk hx)
      · have := hl k (hg3 k hk).1; omega
    by_cases ha : i = i1
    · by_cases hb : i = j1
      · omega
      · subst ha
        rw [List.getElem?_set_self (by omega)] at e1
        simp only [Option.some.injEq] at e1
        subst e1
        rw [List.getElem?_set_ne hb] at e2
        exact (old j1 q2 g (fun x => hb x.symm) e2 b2 b1).elim
    · rw [List.getElem?_set_ne ha] at e1
      by_cases hb : i = j1
      · subst hb
        rw [List.getElem?_set_self (by omega)] at e2
        simp only [Option.some.injEq] at e2
        subst e2
        exact (old i1 q1 g (fun x => ha x.symm) e1 b1 b2).elim
      · rw [List.getElem?_set_ne hb] at e2
        exact h7 i1 j1 q1 q2 g e1 e2 b1 b2
  · rintro k (hk | hk)
    · exact Nat.lt_of_lt_of_le (hl k hk) F'.size
    · exact hk.2
end Go.Proofs.Ytnoioldbddjkiaa
