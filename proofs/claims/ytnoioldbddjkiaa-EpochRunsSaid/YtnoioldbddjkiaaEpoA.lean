/- The epochs: what they are in memory, and the calls in, Now, Swap, Said, Say, Len. No condition but that there are such epochs. -/
import Derived.Test.YtnoioldbddjkiaaRows
import Derived.Test.YtnoioldbddjkiaaQueue
namespace Go.Proofs.Ytnoioldbddjkiaa
open Go Go.RowKit
set_option linter.unusedVariables false
set_option linter.unusedSimpArgs false
/-- The cells of nodes and the epochs in which they went. -/
def goneC (l : List (Int × Int)) : List Value := l.flatMap fun p => [.int .i64 p.1, .int .i64 p.2]
theorem goneC_length (l : List (Int × Int)) : (goneC l).length = l.length * 2 := by
  induction l with
  | nil => rfl
  | cons p l ih => simp only [goneC, List.flatMap_cons, List.length_append, List.length_cons, List.length_nil] at ih ⊢; omega
theorem goneC_append (l : List (Int × Int)) (n a : Int) : goneC l ++ [.int .i64 n, .int .i64 a] = goneC (l ++ [(n, a)]) := by simp [goneC]
/-- The epochs at block b, their blocks among S: the epoch, what each thread announced, what each let go. -/
structure Epo (w : World) (b : Nat) (S : Nat → Prop) (now : Int) (said : List Int) (limbo : List (List (Int × Int))) : Prop where
  body : ∃ (vs vl : Value) (qs : List Value), Blk w b 57 #[.int .i64 now, vs, vl] ∧ w.ownsRow 0 2 1 vs said.length (said.map (Value.int .i64)) ∧ (∀ g, vs.ownBlock = some g → S g) ∧
    w.ownsRow 0 59 1 vl limbo.length qs ∧ (∀ g, vl.ownBlock = some g → S g) ∧
    (∀ (i : Nat) (l : List (Int × Int)), limbo[i]? = some l → ∃ q, qs[i]? = some q ∧ QRow w 61 2 q l.length (goneC l) ∧ ∀ g, q.ownBlock = some g → S g ∧ ∃ c, Blk w g 61 c) ∧
    (∀ (i j : Nat) (q q' : Value) (g : Nat), qs[i]? = some q → qs[j]? = some q' → q.ownBlock = some g → q'.ownBlock = some g → i = j)
  here : S b
  lt : ∀ k, S k → k < w.heap.size
  same : said.length = limbo.length
  few : said.length ≤ 64
theorem Epo.fr {S F : Nat → Prop} {w w' : World} {b : Nat} {now : Int} {said : List Int} {limbo : List (List (Int × Int))} (h : Epo w b S now said limbo) (hf : Fr F w w') (hn : ∀ k, S k → ¬ F k) : Epo w' b S now said limbo := by
  obtain ⟨⟨vs, vl, qs, h1, h2, h3, h4, h5, h6, h7⟩, hh, hl, hs, hw⟩ := h
  refine ⟨⟨vs, vl, qs, h1.fr hf (hn _ hh), ownsRow_fr h2 hf (fun g hg => hn g (h3 g hg)), h3, ownsRow_fr h4 hf (fun g hg => hn g (h5 g hg)), h5, fun i l hi => ?_, h7⟩, hh, fun k hk => Nat.lt_of_lt_of_le (hl k hk) hf.size, hs, hw⟩
  obtain ⟨q, hq, hr, hg⟩ := h6 i l hi
  refine ⟨q, hq, hr.fr hf (fun g hx _ => hn g (hg g hx).1), fun g hx => ⟨(hg g hx).1, ?_⟩⟩
  obtain ⟨c, hc⟩ := (hg g hx).2
  exact ⟨c, hc.fr hf (hn g (hg g hx).1)⟩
theorem Epo.more {S S' : Nat → Prop} {w : World} {b : Nat} {now : Int} {said : List Int} {limbo : List (List (Int × Int))} (h : Epo w b S now said limbo) (hs : ∀ k, S k → S' k) (hl : ∀ k, S' k → k < w.heap.size) : Epo w b S' now said limbo := by
  obtain ⟨⟨vs, vl, qs, h1, h2, h3, h4, h5, h6, h7⟩, hh, _, hsm, hw⟩ := h
  refine ⟨⟨vs, vl, qs, h1, h2, fun g hg => hs g (h3 g hg), h4, fun g hg => hs g (h5 g hg), fun i l hi => ?_, h7⟩, hs _ hh, hl, hsm, hw⟩
  obtain ⟨q, hq, hr, hg⟩ := h6 i l hi
  exact ⟨q, hq, hr, fun g hx => ⟨hs g (hg g hx).1, (hg g hx).2⟩⟩
theorem in_nil (t : Int) (w : World) : Calls Try.prog 23 #[.pointer none, .int .i64 t] w fun e w' => e = .returned (.bool false) ∧ w' = w := by
  go_enter Try.func23, Try.ntmps23
  go_wp2
  go_ret
  exact ⟨rfl, rfl⟩
/-- Is there such a thread? -/
def isT (t : Int) (n : Nat) : Bool := decide (0 ≤ t ∧ t < (n : Int))
theorem in_calls {S : Nat → Prop} {w : World} {b : Nat} {now : Int} {said : List Int} {limbo : List (List (Int × Int))} (h : Epo w b S now said limbo) (t : Int) :
    Calls Try.prog 23 #[.pointer (some ⟨b, 0, none⟩), .int .i64 t] w fun e w' => e = .returned (.bool (isT t said.length)) ∧ w' = w := by
  obtain ⟨⟨vs, vl, qs, h1, h2, h3, h4, h5, h6, h7⟩, hh, hl, hs, hw⟩ := h
  obtain ⟨a, c, rfl⟩ : ∃ a c, vs = .slice a said.length c := by
    rcases row_cells h2 with ⟨rfl, h0, _⟩ | ⟨g, cap, cur, rfl, _⟩
    · exact ⟨none, 0, by rw [h0]⟩
    · exact ⟨_, _, rfl⟩
  have c1 : w.cell? ⟨b, 1, none⟩ = some (.slice a said.length c) := h1.cell 1
  clear h1 h2 h3 h4 h5 h6 h7 hl hs
  go_enter Try.func23, Try.ntmps23
  go_wp2
  all_goals
    go_ret
    refine ⟨ret_bool ?_, rfl⟩
    unfold isT
    rw [Bool.eq_iff_iff]
    simp
    try omega
theorem Now_nil (w : World) : Calls Try.prog 16 #[.pointer none] w fun e w' => e = .returned (.int .i64 0) ∧ w' = w := by
  go_enter Try.func16, Try.ntmps16
  go_wp2
  go_ret
  exact ⟨rfl, rfl⟩
theorem Now_calls {S : Nat → Prop} {w : World} {b : Nat} {now : Int} {said : List Int} {limbo : List (List (Int × Int))} (h : Epo w b S now said limbo) :
    Calls Try.prog 16 #[.pointer (some ⟨b, 0, none⟩)] w fun e w' => e = .returned (.int .i64 now) ∧ w' = w := by
  obtain ⟨⟨vs, vl, qs, h1, _⟩, _⟩ := h
  have c0 : w.cell? ⟨b, 0, none⟩ = some (.int .i64 now) := h1.cell 0
  clear h1
  go_enter Try.func16, Try.ntmps16
  go_wp2
  go_ret
  exact ⟨rfl, rfl⟩
theorem Len_nil (w : World) : Calls Try.prog 17 #[.pointer none] w fun e w' => e = .returned (.int .i64 0) ∧ w' = w := by
  go_enter Try.func17, Try.ntmps17
  go_wp2
  go_ret
  exact ⟨rfl, rfl⟩
theorem Len_calls {S : Nat → Prop} {w : World} {b : Nat} {now : Int} {said : List Int} {limbo : List (List (Int × Int))} (h : Epo w b S now said limbo) :
    Calls Try.prog 17 #[.pointer (some ⟨b, 0, none⟩)] w fun e w' => e = .returned (.int .i64 said.length) ∧ w' = w := by
  obtain ⟨⟨vs, vl, qs, h1, h2, h3, h4, h5, h6, h7⟩, hh, hl, hs, hw⟩ := h
  obtain ⟨a, c, rfl⟩ : ∃ a c, vs = .slice a said.length c := by
    rcases row_cells h2 with ⟨rfl, h0, _⟩ | ⟨g, cap, cur, rfl, _⟩
    · exact ⟨none, 0, by rw [h0]⟩
    · exact ⟨_, _, rfl⟩
  have c1 : w.cell? ⟨b, 1, none⟩ = some (.slice a said.length c) := h1.cell 1
  clear h1 h2 h3 h4 h5 h6 h7 hl hs
  go_enter Try.func17, Try.ntmps17
  go_wp2
  go_ret
  exact ⟨rfl, rfl⟩
theorem Said_nil (t : Int) (w : World) : Calls Try.prog 18 #[.pointer none, .int .i64 t] w fun e w' => e = .returned (.int .i64 (-1)) ∧ w' = w := by
  have hi := Lib.hid (in_nil t w)
  go_enter Try.func18, Try.ntmps18
  go_wp2_with (go_at_call 23; refine hi.out.mono ?_; rintro e w' ⟨rfl, rfl⟩)
  go_ret
  exact ⟨rfl, rfl⟩
theorem isT_false {t : Int} {n : Nat} (h : isT t n = false) : ¬ (0 ≤ t ∧ t < (n : Int)) := by simpa [isT] using h
theorem isT_true {t : Int} {n : Nat} (h : isT t n = true) : 0 ≤ t ∧ t < (n : Int) := by simpa [isT] using h
theorem Said_calls {S : Nat → Prop} {w : World} {b : Nat} {now : Int} {said : List Int} {limbo : List (List (Int × Int))} (h : Epo w b S now said limbo) (t : Int) :
    Calls Try.prog 18 #[.pointer (some ⟨b, 0, none⟩), .int .i64 t] w fun e w' => e = .returned (.int .i64 (if isT t said.length then said.getD t.toNat 0 else -1)) ∧ w' = w := by
  have hi := Lib.hid (in_calls h t)
  obtain ⟨⟨vs, vl, qs, h1, h2, h3, h4, h5, h6, h7⟩, hh, hl, hs, hw⟩ := h
  cases ht : isT t said.length with
  | false =>
    rw [ht] at hi
    clear h1 h2 h3 h4 h5 h6 h7 hl hs ht
    go_enter Try.func18, Try.ntmps18
    go_wp2_with (go_at_call 23; refine hi.out.mono ?_; rintro e w' ⟨rfl, rfl⟩)
    go_ret
    exact ⟨rfl, rfl⟩
  | true =>
    rw [ht] at hi
    obtain ⟨t0, t1⟩ := isT_true ht
    rcases row_cells h2 with ⟨_, h0, _⟩ | ⟨g, cap, cur, rfl, _, hg, _, _, _, _, hj⟩
    · omega
    have c1 : w.cell? ⟨b, 1, none⟩ = some (.slice (some ⟨g, 0, none⟩) said.length cap) := h1.cell 1
    have c2 : w.cell? ⟨g, t.toNat, none⟩ = some (.int .i64 (said.getD t.toNat 0)) := by
      rw [hg.cell, hj _ (by omega)]
      have : t.toNat < said.length := by omega
      simp [this, List.getD]
    clear h1 h2 h3 h4 h5 h6 h7 hl hs ht hg hj
    go_enter Try.func18, Try.ntmps18
    go_wp2_with (go_at_call 23; refine hi.out.mono ?_; rintro e w' ⟨rfl, rfl⟩)
    go_ret
    exact ⟨rfl, rfl⟩
theorem Swap_nil (n : Int) (w : World) : Calls Try.prog 15 #[.pointer none, .int .i64 n] w fun e w' => e = .returned (.bool false) ∧ w' = w := by
  go_enter Try.func15, Try.ntmps15
  go_wp2
  go_ret
  exact ⟨rfl, rfl⟩
theorem Swap_calls {S : Nat → Prop} {w : World} {b : Nat} {now : Int} {said : List Int} {limbo : List (List (Int × Int))} (h : Epo w b S now said limbo) (n : Int) (hb : 0 ≤ now ∧ now ≤ 9000000000000000000) :
    Calls Try.prog 15 #[.pointer (some ⟨b, 0, none⟩), .int .i64 n] w fun e w' => e = .returned (.bool (decide (now = n))) ∧ Fr S w w' ∧ Epo w' b S (if now = n then now + 1 else now) said limbo := by
  have H := Lib.hid h
  obtain ⟨⟨vs, vl, qs, h1, h2, h3, h4, h5, h6, h7⟩, hh, hl, hs, hw⟩ := h
  obtain ⟨hb0, hb1⟩ := hb
  have c0 : w.cell? ⟨b, 0, none⟩ = some (.int .i64 now) := h1.cell 0
  have f0 : w.frozen? ⟨b, 0, none⟩ = false := h1.froz 0
  by_cases hn : now = n
  · rw [if_pos hn, decide_eq_true hn]
    have F := (Fr.refl (fun k => k = b) w).setCell (p := ⟨b, 0, none⟩) (.inl rfl) (.int .i64 (now + 1))
    have E : Epo (w.setCell ⟨b, 0, none⟩ (.int .i64 (now + 1))) b S (now + 1) said limbo := by
      refine ⟨⟨vs, vl, qs, h1.set 0 _, ownsRow_fr h2 F (fun g hg hx => ?_), h3, ownsRow_fr h4 F (fun g hg hx => ?_), h5, fun i l hi => ?_, h7⟩, hh, fun k hk => by simpa [World.setCell] using hl k hk, hs, hw⟩
      · obtain ⟨_, c, hc⟩ := ownsRow_block h2 hg; exact hc.ne h1 (by decide) hx
      · obtain ⟨_, c, hc⟩ := ownsRow_block h4 hg; exact hc.ne h1 (by decide) hx
      · obtain ⟨q, hq, hr, hg⟩ := h6 i l hi
        have hb : ∀ g, q.ownBlock = some g → g ≠ b := fun g hx => by obtain ⟨_, c, hc⟩ := hg g hx; exact hc.ne h1 (by decide)
        exact ⟨q, hq, hr.fr F (fun g hx _ => hb g hx), fun g hx => ⟨(hg g hx).1, by obtain ⟨_, c, hc⟩ := hg g hx; exact ⟨c, hc.fr F (hb g hx)⟩⟩⟩
    have EE := Lib.hid E
    have hd : (now != n) = false := by simp [hn]
    have HN := Lib.hid hn
    clear E h1 h2 h3 h4 h5 h6 h7 hl hs hn F
    go_enter Try.func15, Try.ntmps15
    go_wp2
    go_ret
    exact ⟨rfl, (Fr.refl _ _).setCell (.inl hh) _, EE.out⟩
  · rw [if_neg hn, decide_eq_false hn]
    have hd : (now != n) = true := by simp [hn]
    clear h1 h2 h3 h4 h5 h6 h7 hl hs hn
    go_enter Try.func15, Try.ntmps15
    go_wp2
    go_ret
    exact ⟨rfl, Fr.refl _ _, H.out⟩
end Go.Proofs.Ytnoioldbddjkiaa
