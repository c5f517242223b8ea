/- The document's epochs: what they are in memory. No condition. (Printed out of XEpoA, XEpoB with the types turned.) -/
import Derived.Test.YtnoioldbddjkiaaWEp4
import Derived.Test.YtnoioldbddjkiaaApp
namespace Go.Proofs.Ytnoioldbddjkiaa
open Go Go.RowKit
set_option linter.unusedVariables false
set_option linter.unusedSimpArgs false
/-- The document's epochs at block b, their blocks among S: the epoch, what each thread announced, what each let go. -/
structure Rfo (w : World) (b : Nat) (S : Nat → Prop) (now : Int) (said : List Int) (limbo : List (List (Int × Int))) : Prop where
  body : ∃ (vs vl : Value) (qs : List Value), Blk w b 48 #[.int .i64 now, vs, vl] ∧ w.ownsRow 0 2 1 vs said.length (said.map (Value.int .i64)) ∧ (∀ g, vs.ownBlock = some g → S g) ∧
    w.ownsRow 0 49 1 vl limbo.length qs ∧ (∀ g, vl.ownBlock = some g → S g) ∧
    (∀ (i : Nat) (l : List (Int × Int)), limbo[i]? = some l → ∃ q, qs[i]? = some q ∧ QRow w 51 2 q l.length (goneC l) ∧ ∀ g, q.ownBlock = some g → S g ∧ ∃ c, Blk w g 51 c) ∧
    (∀ (i j : Nat) (q q' : Value) (g : Nat), qs[i]? = some q → qs[j]? = some q' → q.ownBlock = some g → q'.ownBlock = some g → i = j)
  here : S b
  lt : ∀ k, S k → k < w.heap.size
  same : said.length = limbo.length
  few : said.length ≤ 64
theorem Rfo.fr {S F : Nat → Prop} {w w' : World} {b : Nat} {now : Int} {said : List Int} {limbo : List (List (Int × Int))} (h : Rfo w b S now said limbo) (hf : Fr F w w') (hn : ∀ k, S k → ¬ F k) : Rfo w' b S now said limbo := by
  obtain ⟨⟨vs, vl, qs, h1, h2, h3, h4, h5, h6, h7⟩, hh, hl, hs, hw⟩ := h
  refine ⟨⟨vs, vl, qs, h1.fr hf (hn _ hh), ownsRow_fr h2 hf (fun g hg => hn g (h3 g hg)), h3, ownsRow_fr h4 hf (fun g hg => hn g (h5 g hg)), h5, fun i l hi => ?_, h7⟩, hh, fun k hk => Nat.lt_of_lt_of_le (hl k hk) hf.size, hs, hw⟩
  obtain ⟨q, hq, hr, hg⟩ := h6 i l hi
  refine ⟨q, hq, hr.fr hf (fun g hx _ => hn g (hg g hx).1), fun g hx => ⟨(hg g hx).1, ?_⟩⟩
  obtain ⟨c, hc⟩ := (hg g hx).2
  exact ⟨c, hc.fr hf (hn g (hg g hx).1)⟩
theorem Rfo.more {S S' : Nat → Prop} {w : World} {b : Nat} {now : Int} {said : List Int} {limbo : List (List (Int × Int))} (h : Rfo w b S now said limbo) (hs : ∀ k, S k → S' k) (hl : ∀ k, S' k → k < w.heap.size) : Rfo w b S' now said limbo := by
  obtain ⟨⟨vs, vl, qs, h1, h2, h3, h4, h5, h6, h7⟩, hh, _, hsm, hw⟩ := h
  refine ⟨⟨vs, vl, qs, h1, h2, fun g hg => hs g (h3 g hg), h4, fun g hg => hs g (h5 g hg), fun i l hi => ?_, h7⟩, hs _ hh, hl, hsm, hw⟩
  obtain ⟨q, hq, hr, hg⟩ := h6 i l hi
  exact ⟨q, hq, hr, fun g hx => ⟨hs g (hg g hx).1, (hg g hx).2⟩⟩
/-- One thread's nodes are others. -/
theorem Rfo_put {S : Nat → Prop} {w w1 : World} {b : Nat} {now : Int} {said : List Int} {limbo : List (List (Int × Int))} {vs : Value} {gl cl : Nat} {qs : List Value} (h1 : Blk w b 48 #[.int .i64 now, vs, .slice (some ⟨gl, 0, none⟩) limbo.length cl]) (h2 : w.ownsRow 0 2 1 vs said.length (said.map (Value.int .i64))) (h3 : ∀ g, vs.ownBlock = some g → S g)
    (h4 : w.ownsRow 0 49 1 (.slice (some ⟨gl, 0, none⟩) limbo.length cl) limbo.length qs) (h5 : ∀ g, (Value.slice (some ⟨gl, 0, none⟩) limbo.length cl).ownBlock = some g → S g)
    (h6 : ∀ (i : Nat) (l : List (Int × Int)), limbo[i]? = some l → ∃ q, qs[i]? = some q ∧ QRow w 51 2 q l.length (goneC l) ∧ ∀ g, q.ownBlock = some g → S g ∧ ∃ c, Blk w g 51 c)
    (h7 : ∀ (i j : Nat) (q q' : Value) (g : Nat), qs[i]? = some q → qs[j]? = some q' → q.ownBlock = some g → q'.ownBlock = some g → i = j)
    (hh : S b) (hl : ∀ k, S k → k < w.heap.size) (hs : said.length = limbo.length) (hw : said.length ≤ 64)
    {i : Nat} {q q' : Value} {l' : List (Int × Int)} (hi : i < limbo.length) (hq : qs[i]? = some q) (Fg : Fr (fun k => q.ownBlock = some k) w w1) (hq' : QRow w1 51 2 q' l'.length (goneC l')) (hb' : ∀ g, q'.ownBlock = some g → (q.ownBlock = some g ∨ w.heap.size ≤ g) ∧ ∃ c, Blk w1 g 51 c) :
    Fr S w (w1.setCell ⟨gl, i, none⟩ q') ∧ Rfo (w1.setCell ⟨gl, i, none⟩ q') b (wide S w (w1.setCell ⟨gl, i, none⟩ q')) now said (limbo.set i l') := by
  obtain ⟨_, cg, hg⟩ := ownsRow_block h4 (g := gl) rfl
  have hlq : qs.length = limbo.length := by have := h4.1; simpa using this
  obtain ⟨l0, hl0⟩ : ∃ l0, limbo[i]? = some l0 := ⟨_, List.getElem?_eq_getElem hi⟩
  obtain ⟨qq, hqq, hr0, hg0⟩ := h6 i l0 hl0
  obtain rfl : qq = q := by rw [hq] at hqq; simpa using hqq.symm
  have nb : ∀ k, qq.ownBlock = some k → ∀ (T : TypeId) (c : Array Value) (x : Nat), Blk w x T c → T ≠ 51 → x ≠ k := fun k hk T c x hx hT => by
    obtain ⟨_, c', hc'⟩ := hg0 k hk
    exact hx.ne hc' hT
  have O4 : w1.ownsRow 0 49 1 (.slice (some ⟨gl, 0, none⟩) limbo.length cl) limbo.length qs := ownsRow_fr h4 Fg (fun k hk hx => by
    obtain ⟨_, c, hc⟩ := ownsRow_block h4 hk; exact nb k hx _ _ _ hc (by decide) rfl)
  have hg1 : Blk w1 gl 49 cg := hg.fr Fg (fun hx => nb gl hx _ _ _ hg (by decide) rfl)
  have Fs := (Fr.refl (fun k => k = gl) w1).setCell (p := ⟨gl, i, none⟩) (.inl rfl) q'
  have O5 := ownsRow_set O4 i hi q'
  generalize hw' : w1.setCell ⟨gl, i, none⟩ q' = w' at *
  have s' : w'.heap.size = w1.heap.size := by rw [← hw']; simp [World.setCell]
  have F' : Fr (fun k => k = gl ∨ qq.ownBlock = some k) w w' := (Fg.mono (fun _ _ x => .inr x)).trans Fs (fun k _ hk => .inl hk)
  have hgS : S gl := h5 gl rfl
  refine ⟨F'.mono (fun k _ hk => ?_), ⟨⟨vs, .slice (some ⟨gl, 0, none⟩) limbo.length cl, qs.set i q', ?_, ?_, fun g hg => .inl (h3 g hg), ?_, ?_, ?_, ?_⟩, .inl hh, ?_, by rw [List.length_set]; exact hs, hw⟩⟩
  · rcases hk with rfl | hk
    · exact hgS
    · exact (hg0 k hk).1
  · exact h1.fr F' (fun hx => by rcases hx with hx | hx; exact h1.ne hg (by decide) hx; exact nb _ hx _ _ _ h1 (by decide) rfl)
  · exact ownsRow_fr h2 F' (fun k hk hx => by
      obtain ⟨_, c, hc⟩ := ownsRow_block h2 hk
      rcases hx with hx | hx
      · exact hc.ne hg (by decide) hx
      · exact nb _ hx _ _ _ hc (by decide) rfl)
  · rw [List.length_set]; exact O5
  · exact fun g hg => .inl (h5 g hg)
  · intro j l hj
    by_cases hij : i = j
    · subst hij
      rw [List.getElem?_set_self hi] at hj
      simp only [Option.some.injEq] at hj
      subst hj
      refine ⟨q', List.getElem?_set_self (by omega), hq'.fr Fs (fun k _ hc hx => by obtain ⟨c, hc⟩ := hc; exact hc.ne hg1 (by decide) hx), fun g hg2 => ?_⟩
      obtain ⟨hx, c, hc⟩ := hb' g hg2
      refine ⟨?_, c, hc.fr Fs (fun hx => hc.ne hg1 (by decide) hx)⟩
      rcases hx with hx | hx
      · exact .inl (hg0 g hx).1
      · exact .inr ⟨hx, by rw [s']; exact hc.lt⟩
    · rw [List.getElem?_set_ne hij] at hj
      obtain ⟨q2, hq2, hr2, hg2⟩ := h6 j l hj
      have no : ∀ k, q2.ownBlock = some k → ¬ (k = gl ∨ qq.ownBlock = some k) := fun k hk hx => by
        rcases hx with hx | hx
        · obtain ⟨_, c, hc⟩ := hg2 k hk; exact hc.ne hg (by decide) hx
        · exact hij (h7 i j qq q2 k hq hq2 hx hk)
      refine ⟨q2, by rw [List.getElem?_set_ne hij]; exact hq2, hr2.fr F' (fun k hk _ => no k hk), fun g hx => ⟨.inl (hg2 g hx).1, ?_⟩⟩
      obtain ⟨_, c, hc⟩ := hg2 g hx
      exact ⟨c, hc.fr F' (no g hx)⟩
  · intro i1 j1 q1 q2 g e1 e2 b1 b2
    have old : ∀ j q2 k, j ≠ i → qs[j]? = some q2 → q2.ownBlock = some k → q'.ownBlock = some k → False := fun j q2 k hj hq2 hk hk' => by
      have hjl : j < limbo.length := by rw [← hlq]; exact (List.getElem?_eq_some_iff.1 hq2).1
      obtain ⟨q3, hq3, _, hg3⟩ := h6 j _ (List.getElem?_eq_getElem hjl)
      obtain rfl : q3 = q2 := by rw [hq2] at hq3; simpa using hq3.symm
      rcases (hb' k hk').1 with hx | hx
      · exact hj (h7 j i q3 qq k hq2 hq hk hx)
      · have := hl k (hg3 k hk).1; omega
    by_cases ha : i = i1
    · by_cases hb : i = j1
      · omega
      · subst ha
        rw [List.getElem?_set_self (by omega)] at e1
        simp only [Option.some.injEq] at e1
        subst e1
        rw [List.getElem?_set_ne hb] at e2
        exact (old j1 q2 g (fun x => hb x.symm) e2 b2 b1).elim
    · rw [List.getElem?_set_ne ha] at e1
      by_cases hb : i = j1
      · subst hb
        rw [List.getElem?_set_self (by omega)] at e2
        simp only [Option.some.injEq] at e2
        subst e2
        exact (old i1 q1 g (fun x => ha x.symm) e1 b1 b2).elim
      · rw [List.getElem?_set_ne hb] at e2
        exact h7 i1 j1 q1 q2 g e1 e2 b1 b2
  · rintro k (hk | hk)
    · exact Nat.lt_of_lt_of_le (hl k hk) F'.size
    · exact hk.2
end Go.Proofs.Ytnoioldbddjkiaa
