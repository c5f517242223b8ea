/- The epochs and the document's epochs as pieces of memory; each call's answer by a plain function. No condition but the bounds. -/
import Derived.Test.YtnoioldbddjkiaaEpoK
import Derived.Test.YtnoioldbddjkiaaHeap
namespace Go.Proofs.Ytnoioldbddjkiaa
open Go Go.RowKit
set_option linter.unusedVariables false
set_option linter.unusedSimpArgs false
/-- Epochs: the epoch, what each announced, what each let go. -/
structure Ep where
  now : Int
  said : List Int
  limbo : List (List (Int × Int))
def epoP (b : Nat) (s : Ep) : Piece := ⟨fun w S => Epo w b S s.now s.said s.limbo, fun h hf hn _ => h.fr hf hn⟩
def rfoP (b : Nat) (s : Ep) : Piece := ⟨fun w S => Rfo w b S s.now s.said s.limbo, fun h hf hn _ => h.fr hf hn⟩
/-- What Take, and Ready, tell and leave. -/
def takeEp (t n : Int) (s : Ep) : Int × Ep :=
  if isT t s.said.length = true then
    match s.limbo[t.toNat]? with
    | some ((node, a) :: l) => if ripe a n = true then (node, { s with limbo := s.limbo.set t.toNat l }) else (0, s)
    | _ => (0, s)
  else (0, s)
def leaveEp (t node a : Int) (s : Ep) : Ep := if isT t s.said.length = true then { s with limbo := s.limbo.set t.toNat (s.limbo.getD t.toNat [] ++ [(node, a)]) } else s
def sayEp (t n : Int) (s : Ep) : Ep := { s with said := if isT t s.said.length = true then s.said.set t.toNat n else s.said }
def swapEp (n : Int) (s : Ep) : Ep := { s with now := if s.now = n then s.now + 1 else s.now }
def saidEp (t : Int) (s : Ep) : Int := if isT t s.said.length = true then s.said.getD t.toNat 0 else -1
/-- What is so of all. -/
structure OkEp (s : Ep) (k : Nat) : Prop where
  nb : 0 ≤ s.now ∧ s.now ≤ k
  ats : ∀ l ∈ s.limbo, ∀ p ∈ l, -9223372036854775808 ≤ p.2 ∧ p.2 ≤ 9223372036854775807
  few : waits s.limbo ≤ k
  same : s.said.length = s.limbo.length
theorem waits_set (limbo : List (List (Int × Int))) (i : Nat) (l l' : List (Int × Int)) (h : limbo[i]? = some l) : waits (limbo.set i l') + l.length = waits limbo + l'.length := by
  induction limbo generalizing i with
  | nil => simp at h
  | cons x xs ih =>
    cases i with
    | zero =>
      simp at h; subst h
      simp [waits]; omega
    | succ i =>
      simp at h
      have := ih i h
      simp [waits] at this ⊢; omega
theorem waits_get (limbo : List (List (Int × Int))) (i : Nat) (l : List (Int × Int)) (h : limbo[i]? = some l) : l.length ≤ waits limbo := by
  have := waits_set limbo i l [] h
  simp at this; omega
theorem OkEp.more {s : Ep} {k k' : Nat} (h : OkEp s k) (hk : k ≤ k') : OkEp s k' := ⟨⟨h.nb.1, by have := h.nb.2; omega⟩, h.ats, by have := h.few; omega, h.same⟩
theorem isT_get {s : Ep} {k : Nat} (h : OkEp s k) {t : Int} (ht : isT t s.said.length = true) : ∃ l, s.limbo[t.toNat]? = some l := by
  obtain ⟨t0, t1⟩ := isT_true ht
  have := h.same
  exact ⟨_, List.getElem?_eq_getElem (by omega)⟩
theorem OkEp.take {s : Ep} {k : Nat} (h : OkEp s k) (t n : Int) : OkEp (takeEp t n s).2 k ∧ (takeEp t n s).2.said.length = s.said.length := by
  unfold takeEp
  split
  · split
    · rename_i node a l hl
      split
      · refine ⟨⟨h.nb, fun x hx p hp => ?_, ?_, by simpa using h.same⟩, rfl⟩
        · rcases List.mem_or_eq_of_mem_set hx with hx | rfl
          · exact h.ats x hx p hp
          · exact h.ats _ (List.mem_of_getElem? hl) p (List.mem_cons_of_mem _ hp)
        · have := waits_set s.limbo t.toNat _ l hl
          have := h.few
          simp only [List.length_cons] at *
          show waits (s.limbo.set t.toNat l) ≤ k
          omega
      · exact ⟨h, rfl⟩
    · exact ⟨h, rfl⟩
  · exact ⟨h, rfl⟩
theorem OkEp.leave {s : Ep} {k : Nat} (h : OkEp s k) (t node a : Int) (ha : -9223372036854775808 ≤ a ∧ a ≤ 9223372036854775807) : OkEp (leaveEp t node a s) (k + 1) ∧ (leaveEp t node a s).said.length = s.said.length := by
  unfold leaveEp
  split
  · rename_i ht
    obtain ⟨l, hl⟩ := isT_get h ht
    have hg : s.limbo.getD t.toNat [] = l := by simp [List.getD, hl]
    rw [hg]
    refine ⟨⟨⟨h.nb.1, by have := h.nb.2; show s.now ≤ _; omega⟩, fun x hx p hp => ?_, ?_, by simpa using h.same⟩, rfl⟩
    · rcases List.mem_or_eq_of_mem_set hx with hx | rfl
      · exact h.ats x hx p hp
      · rcases List.mem_append.1 hp with hp | hp
        · exact h.ats _ (List.mem_of_getElem? hl) p hp
        · simp at hp; subst hp; exact ha
    · have := waits_set s.limbo t.toNat _ (l ++ [(node, a)]) hl
      have := h.few
      simp only [List.length_append, List.length_cons, List.length_nil] at *
      show waits (s.limbo.set t.toNat _) ≤ _
      omega
  · exact ⟨h.more (Nat.le_succ k), rfl⟩
theorem OkEp.say {s : Ep} {k : Nat} (h : OkEp s k) (t n : Int) : OkEp (sayEp t n s) k ∧ (sayEp t n s).said.length = s.said.length := by
  have e : (sayEp t n s).said.length = s.said.length := by unfold sayEp; dsimp only; split <;> simp
  exact ⟨⟨h.nb, h.ats, h.few, e.trans h.same⟩, e⟩
theorem OkEp.swap {s : Ep} {k : Nat} (h : OkEp s k) (n : Int) : OkEp (swapEp n s) (k + 1) := by
  refine ⟨?_, h.ats, by have := h.few; show waits s.limbo ≤ _; omega, h.same⟩
  have := h.nb
  unfold swapEp; dsimp only
  split <;> omega
section
variable {w0 w : World} {l : List Piece} {b : Nat} {s : Ep} {k : Nat}
theorem Ready_h (h : Heap w0 w l) (i : Nat) (hi : l[i]? = some (epoP b s)) (ok : OkEp s k) (t n : Int) (hn : -9223372036854775808 ≤ n ∧ n ≤ 9223372036854775807) :
    Calls Try.prog 12 #[.pointer (some ⟨b, 0, none⟩), .int .i64 t, .int .i64 n] w fun e w' => e = .returned (.int .i64 (takeEp t n s).1) ∧ Heap w0 w' (l.set i (epoP b (takeEp t n s).2)) := by
  obtain ⟨S, hS, _, U⟩ := h.take i hi
  cases ht : isT t s.said.length with
  | false =>
    have e0 : takeEp t n s = (0, s) := by unfold takeEp; rw [if_neg (by rw [ht]; simp)]
    rw [e0]
    refine (Ready_none hS t n (.inl ht)).mono ?_
    rintro e w' ⟨rfl, rfl⟩
    exact ⟨rfl, U (Fr.refl _ _) hS (fun _ x => .inl x)⟩
  | true =>
    obtain ⟨q, hq⟩ := isT_get ok ht
    cases q with
    | nil =>
      have e0 : takeEp t n s = (0, s) := by unfold takeEp; rw [if_pos ht, hq]
      rw [e0]
      refine (Ready_none hS t n (.inr hq)).mono ?_
      rintro e w' ⟨rfl, rfl⟩
      exact ⟨rfl, U (Fr.refl _ _) hS (fun _ x => .inl x)⟩
    | cons p q =>
      obtain ⟨node, a⟩ := p
      have ha := ok.ats _ (List.mem_of_getElem? hq) (node, a) List.mem_cons_self
      refine (Ready_ask hS t n ht node a q hq hn ha).mono ?_
      rintro e w' ⟨F, ⟨hr, rfl, E⟩ | ⟨hr, rfl, E⟩⟩
      · have e0 : takeEp t n s = (node, { s with limbo := s.limbo.set t.toNat q }) := by unfold takeEp; rw [if_pos ht, hq]; simp only; rw [if_pos hr]
        rw [e0]
        exact ⟨rfl, U (p' := epoP b { s with limbo := s.limbo.set t.toNat q }) F E (fun _ x => x)⟩
      · have e0 : takeEp t n s = (0, s) := by unfold takeEp; rw [if_pos ht, hq]; simp only; rw [if_neg (by rw [hr]; simp)]
        rw [e0]
        exact ⟨rfl, U (p' := epoP b s) F E (fun _ x => x)⟩
theorem Take_h (h : Heap w0 w l) (i : Nat) (hi : l[i]? = some (rfoP b s)) (ok : OkEp s k) (hk : k ≤ 1000000) (t n : Int) (hn : -9223372036854775808 ≤ n ∧ n ≤ 9223372036854775807) :
    Calls Try.prog 21 #[.pointer (some ⟨b, 0, none⟩), .int .i64 t, .int .i64 n] w fun e w' => e = .returned (.int .i64 (takeEp t n s).1) ∧ Heap w0 w' (l.set i (rfoP b (takeEp t n s).2)) := by
  obtain ⟨S, hS, _, U⟩ := h.take i hi
  cases ht : isT t s.said.length with
  | false =>
    have e0 : takeEp t n s = (0, s) := by unfold takeEp; rw [if_neg (by rw [ht]; simp)]
    rw [e0]
    refine (Take_none hS t n (.inl ht)).mono ?_
    rintro e w' ⟨rfl, rfl⟩
    exact ⟨rfl, U (Fr.refl _ _) hS (fun _ x => .inl x)⟩
  | true =>
    obtain ⟨q, hq⟩ := isT_get ok ht
    cases q with
    | nil =>
      have e0 : takeEp t n s = (0, s) := by unfold takeEp; rw [if_pos ht, hq]
      rw [e0]
      refine (Take_none hS t n (.inr hq)).mono ?_
      rintro e w' ⟨rfl, rfl⟩
      exact ⟨rfl, U (Fr.refl _ _) hS (fun _ x => .inl x)⟩
    | cons p q =>
      obtain ⟨node, a⟩ := p
      have ha := ok.ats _ (List.mem_of_getElem? hq) (node, a) List.mem_cons_self
      have hw := waits_get s.limbo _ _ hq
      have := ok.few
      simp only [List.length_cons] at hw
      cases hr : ripe a n with
      | true =>
        have e0 : takeEp t n s = (node, { s with limbo := s.limbo.set t.toNat q }) := by unfold takeEp; rw [if_pos ht, hq]; simp only; rw [if_pos hr]
        rw [e0]
        refine (Take_ripe hS t n ht node a q hq hn ha hr (by omega)).mono ?_
        rintro e w' ⟨rfl, F, E⟩
        exact ⟨rfl, U (p' := rfoP b { s with limbo := s.limbo.set t.toNat q }) F E (fun _ x => x)⟩
      | false =>
        have e0 : takeEp t n s = (0, s) := by unfold takeEp; rw [if_pos ht, hq]; simp only; rw [if_neg (by rw [hr]; simp)]
        rw [e0]
        refine (Take_wait hS t n ht node a q hq hn ha hr).mono ?_
        rintro e w' ⟨rfl, rfl⟩
        exact ⟨rfl, U (Fr.refl _ _) hS (fun _ x => .inl x)⟩
theorem Leave_h (h : Heap w0 w l) (i : Nat) (hi : l[i]? = some (epoP b s)) (ok : OkEp s k) (hk : k ≤ 1000000) (t node a : Int) :
    Calls Try.prog 11 #[.pointer (some ⟨b, 0, none⟩), .int .i64 t, .int .i64 node, .int .i64 a] w fun e w' => e = .returned (.tuple #[]) ∧ Heap w0 w' (l.set i (epoP b (leaveEp t node a s))) := by
  obtain ⟨S, hS, _, U⟩ := h.take i hi
  cases ht : isT t s.said.length with
  | false =>
    have e0 : leaveEp t node a s = s := by unfold leaveEp; rw [if_neg (by rw [ht]; simp)]
    rw [e0]
    refine (Leave_no hS t node a ht).mono ?_
    rintro e w' ⟨rfl, rfl⟩
    exact ⟨rfl, U (Fr.refl _ _) hS (fun _ x => .inl x)⟩
  | true =>
    obtain ⟨q, hq⟩ := isT_get ok ht
    have e0 : leaveEp t node a s = { s with limbo := s.limbo.set t.toNat (q ++ [(node, a)]) } := by
      unfold leaveEp; rw [if_pos ht]; simp [List.getD, hq]
    rw [e0]
    have hw := waits_get s.limbo _ _ hq
    have := ok.few
    refine (Leave_yes hS t node a ht q hq (by omega)).mono ?_
    rintro e w' ⟨rfl, F, E⟩
    exact ⟨rfl, U (p' := epoP b { s with limbo := s.limbo.set t.toNat (q ++ [(node, a)]) }) F E (fun _ x => x)⟩
theorem Say_h (h : Heap w0 w l) (i : Nat) (hi : l[i]? = some (epoP b s)) (t n : Int) :
    Calls Try.prog 19 #[.pointer (some ⟨b, 0, none⟩), .int .i64 t, .int .i64 n] w fun e w' => e = .returned (.tuple #[]) ∧ Heap w0 w' (l.set i (epoP b (sayEp t n s))) := by
  obtain ⟨S, hS, _, U⟩ := h.take i hi
  refine (Say_calls hS t n).mono ?_
  rintro e w' ⟨rfl, F, E⟩
  exact ⟨rfl, U (p' := epoP b (sayEp t n s)) F E (fun _ x => .inl x)⟩
theorem Swap_h (h : Heap w0 w l) (i : Nat) (hi : l[i]? = some (epoP b s)) (n : Int) (hb : 0 ≤ s.now ∧ s.now ≤ 9000000000000000000) :
    Calls Try.prog 15 #[.pointer (some ⟨b, 0, none⟩), .int .i64 n] w fun e w' => e = .returned (.bool (decide (s.now = n))) ∧ Heap w0 w' (l.set i (epoP b (swapEp n s))) := by
  obtain ⟨S, hS, _, U⟩ := h.take i hi
  refine (Swap_calls hS n hb).mono ?_
  rintro e w' ⟨rfl, F, E⟩
  exact ⟨rfl, U (p' := epoP b (swapEp n s)) F E (fun _ x => .inl x)⟩
theorem Said_h (h : Heap w0 w l) (i : Nat) (hi : l[i]? = some (epoP b s)) (t : Int) :
    Calls Try.prog 18 #[.pointer (some ⟨b, 0, none⟩), .int .i64 t] w fun e w' => e = .returned (.int .i64 (saidEp t s)) ∧ w' = w := by
  obtain ⟨S, hS, _⟩ := h.get i hi
  exact Said_calls hS t
theorem Now_h (h : Heap w0 w l) (i : Nat) (hi : l[i]? = some (epoP b s)) : Calls Try.prog 16 #[.pointer (some ⟨b, 0, none⟩)] w fun e w' => e = .returned (.int .i64 s.now) ∧ w' = w := by
  obtain ⟨S, hS, _⟩ := h.get i hi
  exact Now_calls hS
theorem Len_h (h : Heap w0 w l) (i : Nat) (hi : l[i]? = some (epoP b s)) : Calls Try.prog 17 #[.pointer (some ⟨b, 0, none⟩)] w fun e w' => e = .returned (.int .i64 s.said.length) ∧ w' = w := by
  obtain ⟨S, hS, _⟩ := h.get i hi
  exact Len_calls hS
theorem Limbo_h (h : Heap w0 w l) (i : Nat) (hi : l[i]? = some (epoP b s)) (hw : waits s.limbo ≤ 1000000000) : Calls Try.prog 13 #[.pointer (some ⟨b, 0, none⟩)] w fun e w' => e = .returned (.int .i64 (waits s.limbo)) ∧ w' = w := by
  obtain ⟨S, hS, _⟩ := h.get i hi
  exact Limbo_calls hS hw
theorem Many_h (h : Heap w0 w l) (i : Nat) (hi : l[i]? = some (rfoP b s)) (hw : waits s.limbo ≤ 1000000000) : Calls Try.prog 22 #[.pointer (some ⟨b, 0, none⟩)] w fun e w' => e = .returned (.int .i64 (waits s.limbo)) ∧ w' = w := by
  obtain ⟨S, hS, _⟩ := h.get i hi
  exact Many_calls hS hw
/-- What stands in the document's block. -/
theorem rfo_cells (h : Heap w0 w l) (i : Nat) (hi : l[i]? = some (rfoP b s)) : ∃ av cv al cl, Blk w b 48 #[.int .i64 s.now, .slice av s.said.length cv, .slice al s.limbo.length cl] := by
  obtain ⟨S, hS, _⟩ := h.get i hi
  obtain ⟨⟨vs, vl, qs, h1, h2, h3, h4, h5, h6, h7⟩, _⟩ := hS
  obtain ⟨av, cv, rfl⟩ := form_own h2
  obtain ⟨al, cl, rfl⟩ := form_own h4
  exact ⟨av, cv, al, cl, h1⟩
theorem rfo_now (h : Heap w0 w l) (i : Nat) (hi : l[i]? = some (rfoP b s)) (n : Int) : Heap w0 (w.setCell ⟨b, 0, none⟩ (.int .i64 n)) (l.set i (rfoP b { s with now := n })) := by
  obtain ⟨S, hS, _, U⟩ := h.take i hi
  obtain ⟨⟨vs, vl, qs, h1, h2, h3, h4, h5, h6, h7⟩, hh, hl, hs, hw⟩ := hS
  have F := (Fr.refl (fun k => k = b) w).setCell (p := ⟨b, 0, none⟩) (.inl rfl) (.int .i64 n)
  have E : Rfo (w.setCell ⟨b, 0, none⟩ (.int .i64 n)) b S n s.said s.limbo := by
    refine ⟨⟨vs, vl, qs, h1.set 0 _, ownsRow_fr h2 F (fun g hg hx => ?_), h3, ownsRow_fr h4 F (fun g hg hx => ?_), h5, fun i l hi => ?_, h7⟩, hh, fun k hk => by simpa [World.setCell] using hl k hk, hs, hw⟩
    · obtain ⟨_, c, hc⟩ := ownsRow_block h2 hg; exact hc.ne h1 (by decide) hx
    · obtain ⟨_, c, hc⟩ := ownsRow_block h4 hg; exact hc.ne h1 (by decide) hx
    · obtain ⟨q, hq, hr, hg⟩ := h6 i l hi
      have hb : ∀ g, q.ownBlock = some g → g ≠ b := fun g hx => by obtain ⟨_, c, hc⟩ := hg g hx; exact hc.ne h1 (by decide)
      exact ⟨q, hq, hr.fr F (fun g hx _ => hb g hx), fun g hx => ⟨(hg g hx).1, by obtain ⟨_, c, hc⟩ := hg g hx; exact ⟨c, hc.fr F (hb g hx)⟩⟩⟩
  exact U (p' := rfoP b { s with now := n }) (F.mono (fun k _ hk => by rw [hk]; exact hh)) E (fun _ x => .inl x)
/-- The place of what a thread announced, and of what it let go. -/
theorem rfo_said (h : Heap w0 w l) (i : Nat) (hi : l[i]? = some (rfoP b s)) (t : Int) (ht : isT t s.said.length = true) : ∃ g cv al cl, Blk w b 48 #[.int .i64 s.now, .slice (some ⟨g, 0, none⟩) s.said.length cv, .slice al s.limbo.length cl] ∧
    w.cell? ⟨g, t.toNat, none⟩ = some (.int .i64 (s.said.getD t.toNat 0)) ∧ w.frozen? ⟨g, t.toNat, none⟩ = false ∧ ∀ n, Heap w0 (w.setCell ⟨g, t.toNat, none⟩ (.int .i64 n)) (l.set i (rfoP b (sayEp t n s))) := by
  obtain ⟨S, hS, _, U⟩ := h.take i hi
  obtain ⟨⟨vs, vl, qs, h1, h2, h3, h4, h5, h6, h7⟩, hh, hl, hs, hw⟩ := hS
  obtain ⟨t0, t1⟩ := isT_true ht
  obtain ⟨g, cap, rfl⟩ := ownsRow_form h2 (by omega)
  obtain ⟨al, cl, rfl⟩ := form_own h4
  have hlt : t.toNat < s.said.length := by omega
  obtain ⟨c2, f2, _⟩ := ownsRow_get h2 t.toNat (.int .i64 (s.said.getD t.toNat 0)) (by simp [hlt, List.getD])
  refine ⟨g, cap, al, cl, h1, c2, f2, fun n => ?_⟩
  have F := (Fr.refl (fun k => k = g) w).setCell (p := ⟨g, t.toNat, none⟩) (.inl rfl) (.int .i64 n)
  obtain ⟨_, cg, hg⟩ := ownsRow_block h2 (g := g) rfl
  have E : Rfo (w.setCell ⟨g, t.toNat, none⟩ (.int .i64 n)) b S s.now (s.said.set t.toNat n) s.limbo := by
    refine ⟨⟨_, _, qs, h1.fr F (fun hx => hg.ne h1 (by decide) hx.symm), ?_, h3, ownsRow_fr h4 F (fun k hk hx => ?_), h5, fun i l hi => ?_, h7⟩, hh, fun k hk => by simpa [World.setCell] using hl k hk, by rw [List.length_set]; exact hs, by rw [List.length_set]; exact hw⟩
    · rw [List.length_set, List.map_set]
      exact ownsRow_set h2 t.toNat hlt _
    · obtain ⟨_, c, hc⟩ := ownsRow_block h4 hk; exact hc.ne hg (by decide) hx
    · obtain ⟨q, hq, hr, hgq⟩ := h6 i l hi
      have hb : ∀ k, q.ownBlock = some k → k ≠ g := fun k hx => by obtain ⟨_, c, hc⟩ := hgq k hx; exact hc.ne hg (by decide)
      exact ⟨q, hq, hr.fr F (fun k hx _ => hb k hx), fun k hx => ⟨(hgq k hx).1, by obtain ⟨_, c, hc⟩ := hgq k hx; exact ⟨c, hc.fr F (hb k hx)⟩⟩⟩
  refine U (p' := rfoP b (sayEp t n s)) (F.mono (fun k _ hk => by rw [hk]; exact h3 g rfl)) ?_ (fun _ x => .inl x)
  unfold sayEp rfoP
  dsimp only
  rw [if_pos ht]
  exact E
/-- The place of what a thread let go: what stands there is appended to. -/
theorem rfo_limbo (h : Heap w0 w l) (i : Nat) (hi : l[i]? = some (rfoP b s)) (ok : OkEp s k) (t : Int) (ht : isT t s.said.length = true) : ∃ g av cv cl q, Blk w b 48 #[.int .i64 s.now, .slice av s.said.length cv, .slice (some ⟨g, 0, none⟩) s.limbo.length cl] ∧
    w.cell? ⟨g, t.toNat, none⟩ = some q ∧ w.frozen? ⟨g, t.toNat, none⟩ = false ∧ QRow w 51 2 q (s.limbo.getD t.toNat []).length (goneC (s.limbo.getD t.toNat [])) ∧ q.ownBlock ≠ some b ∧ q.ownBlock ≠ some g ∧ (∀ j, q.ownBlock = some j → ∃ c, Blk w j 51 c) ∧ (∃ c, Blk w g 49 c) ∧
    ∀ (w1 : World) (q' : Value) (l' : List (Int × Int)), Fr (fun k => q.ownBlock = some k) w w1 → QRow w1 51 2 q' l'.length (goneC l') → (∀ g, q'.ownBlock = some g → (q.ownBlock = some g ∨ w.heap.size ≤ g) ∧ ∃ c, Blk w1 g 51 c) →
      Heap w0 (w1.setCell ⟨g, t.toNat, none⟩ q') (l.set i (rfoP b { s with limbo := s.limbo.set t.toNat l' })) := by
  obtain ⟨S, hS, _, U⟩ := h.take i hi
  obtain ⟨⟨vs, vl, qs, h1, h2, h3, h4, h5, h6, h7⟩, hh, hl, hs, hw⟩ := hS
  obtain ⟨t0, t1⟩ := isT_true ht
  obtain ⟨q0, hq0⟩ := isT_get ok ht
  have hg0 : s.limbo.getD t.toNat [] = q0 := by simp [List.getD, hq0]
  rw [hg0]
  obtain ⟨av, cv, rfl⟩ := form_own h2
  have hlt : t.toNat < s.limbo.length := by omega
  obtain ⟨g, cl, rfl⟩ := ownsRow_form h4 (by omega)
  obtain ⟨q, hq, hr, hgq⟩ := h6 t.toNat q0 hq0
  obtain ⟨c2, f2, _⟩ := ownsRow_get h4 t.toNat q hq
  obtain ⟨_, cg, hg⟩ := ownsRow_block h4 (g := g) rfl
  refine ⟨g, av, cv, cl, q, h1, c2, f2, hr, fun hx => ?_, fun hx => ?_, fun j hj => (hgq j hj).2, ⟨cg, hg⟩, fun w1 q' l' F1 r1 b1 => ?_⟩
  · obtain ⟨_, c, hc⟩ := hgq _ hx; exact hc.ne h1 (by decide) rfl
  · obtain ⟨_, c, hc⟩ := hgq _ hx; exact hc.ne hg (by decide) rfl
  · obtain ⟨F, E⟩ := Rfo_put h1 h2 h3 h4 h5 h6 h7 hh hl hs hw hlt hq F1 r1 b1
    exact U (p' := rfoP b { s with limbo := s.limbo.set t.toNat l' }) F E (fun _ x => x)
end
end Go.Proofs.Ytnoioldbddjkiaa
