/- Any threads that begin and end, again and again, in any order of their touches: the plain law. No condition but the bounds of size. -/
import Derived.Test.YthkohomogknddaaBgd
import Derived.Test.YthkohomogknddaaHst
namespace Go.Proofs.Ythkohomogknddaa
open Go Go.RowKit
set_option linter.unusedVariables false
set_option linter.unusedSimpArgs false
set_option maxRecDepth 100000
/-- What one Step of one thread comes to. -/
structure Mv (g : Game) (i : Nat) (log : List Int) (s : Wd) (r : Res (List Int) × Tst Wd) : Prop where
  ns : r.1 ≠ .stuck
  hh : g.H ⟨log, 0, false, s⟩
  inv : g.I r.2.sh
  ok : ∀ N, WdOk N s → WdOk (N + 1) r.2.sh
  len : r.2.log.length ≤ log.length + 1
  wait : r.1 = .wait → g.P i r.2.log r.2.sh
  done : ∀ v, r.1 = .done v → g.D i v r.2.sh ∧ v.length ≤ 1000000
  others : ∀ j l, j ≠ i → g.P j l s → g.P j l r.2.sh
  ended : ∀ j v, j ≠ i → g.D j v s → g.D j v r.2.sh
theorem mv_of {g : Game} {i : Nat} {log : List Int} {s : Wd} {p : Wk (List Int)} {E : Ev} {f : Wd → Int × Wd} {k : Int → Wk (List Int)} (h : p.rest E log = .ask f k) (hE : E.is s) (hF : E.is (f s).2) (ht : Tame f) (hh : g.H ⟨log, 0, false, s⟩) (hI : g.I (f s).2)
    (next : (∃ v, (k (f s).1).rest E [] = .ret v ∧ g.D i v (f s).2 ∧ v.length ≤ 1000000) ∨ (∃ f' k', (k (f s).1).rest E [] = .ask f' k' ∧ (p.rest E (log ++ [(f s).1]) = .ask f' k' → g.P i (log ++ [(f s).1]) (f s).2)))
    (oth : ∀ j l, j ≠ i → g.P j l s → g.P j l (f s).2) (fin : ∀ j v, j ≠ i → g.D j v s → g.D j v (f s).2) : Mv g i log s (p.run ⟨log, 0, false, s⟩) := by
  rcases next with ⟨v, hv, hd, hvl⟩ | ⟨f', k', hv, hp⟩
  · rw [Wk.run_step hE hF h (by rw [hv]; simp), hv]
    exact ⟨by simp, hh, hI, fun N ok => ht.1 N s ok, by simp, (fun e => by cases e), (fun u e => by injection e with e; subst e; exact ⟨hd, hvl⟩), oth, fin⟩
  · have hs := hp ((Wk.rest_snoc (Ev.le_refl E) p log (f s).1 h).trans hv)
    rw [Wk.run_step hE hF h (by rw [hv]; simp), hv]
    exact ⟨by simp, hh, hI, fun N ok => ht.1 N s ok, by simp, (fun _ => hs), (fun u e => by cases e), oth, fin⟩
section
variable {g : Game} {c : Wc} {w0 w : World} {ws : List Wkr} {Z X : List Piece} {N : Nat} {s : Wd} {Ts : List Th}
set_option maxHeartbeats 4000000 in
/-- One Step of one of them. -/
theorem Step_one (h : Squad g c w0 ws Z w N s Ts X) {i : Nat} {x : Wkr} {T : Th} (hx : ws[i]? = some x) (hT : Ts[i]? = some T) (hg : T.done = false → g.P i T.log s → Mv g i T.log s (x.p.run ⟨T.log, 0, false, s⟩)) (hd : x.does c g w0) (hN : N ≤ 49000) :
    Calls Try.prog 29 #[.pointer (some ⟨x.b + 3, 0, none⟩)] w fun e w' => ∃ b s' T' Y, e = .returned (.bool b) ∧ Squad g c w0 ws Z w' (N + 1) s' (Ts.set i T') (X ++ Y) ∧ T'.done = b ∧ (T.done = true → b = true) := by
  have K := h.ths i x T hx hT
  have hil : i < Ts.length := (List.getElem?_eq_some_iff.1 hT).1
  cases hdn : T.done with
  | true =>
    obtain ⟨k, hk⟩ := h.th hx hT
    refine (Step_over h.heap k hk hdn).mono ?_
    rintro e w' ⟨rfl, rfl⟩
    refine ⟨true, s, T, [], rfl, ?_, hdn, fun _ => rfl⟩
    rw [List.append_nil, show Ts.set i T = Ts from by
      obtain ⟨_, e⟩ := List.getElem?_eq_some_iff.1 hT
      subst e; exact List.set_getElem_self _]
    exact ⟨h.heap, h.len, h.inv, h.ok.up (Nat.le_succ N), fun i x T hx hT => by have := (h.ths i x T hx hT).grow (Y := []) (Nat.le_succ N); rwa [List.append_nil] at this⟩
  | false =>
    obtain ⟨hp, hlog⟩ := K.goes hdn
    rw [hdn] at hg
    have M := hg rfl hp
    obtain ⟨A, B, hset, hall⟩ := allG_split c i ws Ts x T hx hT
    have eF : ∀ (s : Wd) (T : Th), (wdPl c ((Z ++ A) ++ x.K c) B (x.b + 3)).F s T = wdL c s ++ (Z ++ ((A ++ x.K c) ++ thP (x.b + 3) T :: B)) := fun s T => by
      simp [wdPl, List.append_assoc]
    have hH : Heap w0 w ((wdPl c ((Z ++ A) ++ x.K c) B (x.b + 3)).F s T ++ X) := by
      rw [eF, ← hall]; exact h.heap
    have st : StPl (wdPl c ((Z ++ A) ++ x.K c) B (x.b + 3)) c x.me (.func (.func x.f) x.first x.cap) x.b := by
      refine { bi := 4 + (Z ++ A).length + x.pre.length, g0 := fun s T => ?_, g1 := fun s T => ?_, g2 := fun s T => ?_ }
      all_goals
        rw [eF]
        rw [List.getElem?_append_right (by simp [wdL]; omega)]
        simp only [List.append_assoc]
        rw [List.getElem?_append_right (by simp [wdL]; omega), List.getElem?_append_right (by simp [wdL]; omega)]
        unfold Wkr.K
        simp only [List.append_assoc]
        rw [List.getElem?_append_right (by simp [wdL]; omega), List.getElem?_append_left (by simp [wdL, stB]; omega)]
        have e4 : (wdL c s).length = 4 := rfl
        simp only [List.length_append, e4]
      · have : 4 + (Z.length + A.length) + x.pre.length - 4 - Z.length - A.length - x.pre.length = 0 := by omega
        rw [this]; rfl
      · have : 4 + (Z.length + A.length) + x.pre.length + 1 - 4 - Z.length - A.length - x.pre.length = 1 := by omega
        rw [this]; rfl
      · have : 4 + (Z.length + A.length) + x.pre.length + 2 - 4 - Z.length - A.length - x.pre.length = 2 := by omega
        rw [this]; rfl
    refine (Step_run (X := X) st (hd.1 (Z ++ A) B N (by omega)) hd.2 hH K.work hdn h.ok (by omega) M.hh _ rfl M.ns).mono ?_
    generalize x.p.run ⟨T.log, 0, false, s⟩ = r at *
    obtain ⟨r, x'⟩ := r
    have hoth : ∀ (Y : List Piece) (T' : Th), ThOk g i x T' x'.sh (X ++ Y) (N + 1) → ∀ j y U, ws[j]? = some y → (Ts.set i T')[j]? = some U → ThOk g j y U x'.sh (X ++ Y) (N + 1) := fun Y T' hT' j y U hy hU => by
      by_cases hji : i = j
      · subst hji
        rw [List.getElem?_set_self hil] at hU
        injection hU with hU
        rw [hx] at hy
        injection hy with hy
        subst hU hy
        exact hT'
      · rw [List.getElem?_set_ne hji] at hU
        have q := (h.ths j y U hy hU).grow (Y := Y) (Nat.le_succ N)
        exact ⟨q.work, q.inn, fun hd => ⟨(M.others j U.log (Ne.symm hji) (q.goes hd).1), (q.goes hd).2⟩, fun hd => by
          obtain ⟨v, a, cp, h1, h2, h3, h4⟩ := q.over hd
          exact ⟨v, a, cp, h1, h2, M.ended j v (Ne.symm hji) h3, h4⟩⟩
    cases r with
    | stuck => exact absurd rfl M.ns
    | wait =>
      rintro e w' ⟨rfl, HH⟩
      have hp' := M.wait rfl
      have hl := M.len
      refine ⟨false, x'.sh, { T.of x' with inn := false }, [], rfl, ⟨?_, by rw [List.length_set]; exact h.len, M.inv, M.ok N h.ok, hoth [] _ ⟨K.work, rfl, fun _ => ⟨hp', by dsimp only [Th.of] at hl ⊢; omega⟩, fun h0 => by
        have : T.done = true := h0
        rw [hdn] at this; cases this⟩⟩, hdn, fun h0 => by simp at h0⟩
      rw [List.append_nil, hset, ← eF]
      exact HH
    | done v =>
      rintro e w' ⟨a, cp, rfl, HH⟩
      have hv : v.length ≤ 1000000 := (M.done v rfl).2
      refine ⟨true, x'.sh, { T.of x' with inn := false, done := true, out := .slice a v.length cp }, [rowP 2 1 (.slice a v.length cp) v.length (intC v)], rfl, ⟨?_, by rw [List.length_set]; exact h.len, M.inv, M.ok N h.ok, hoth _ _ ⟨K.work, rfl, fun h0 => by simp at h0, fun _ => ⟨v, a, cp, rfl, hv, (M.done v rfl).1, X.length, by simp⟩⟩⟩, rfl, fun _ => rfl⟩
      rw [hset, ← eF, ← List.append_assoc]
      exact HH
end
/-- Where a thread stands. -/
inductive Pg where
  | N0
  | S (m : Int)
  | C (k : Nat) (m : Int)
  | W (m : Int)
  | N2
  | O (m : Int)
  | E
def tailE (me : Int) : Unit → Wk (List Int) := fun _ => .ask (aSay me (-1)) fun _ => .ret []
def loopE (me : Int) : Wk Unit := .ask aNow fun now2 => ones 1000 me now2
def Pg.prog (me : Int) (n : Nat) : Pg → Wk (List Int)
  | .N0 => begEndP me n
  | .S m => (Wk.ask (aSay me m) fun _ => (saids n 0 m).bind fun all => (goOn all m).bind fun _ => loopE me).bind (tailE me)
  | .C k m => ((saids (n - k) k m).bind fun all => (goOn all m).bind fun _ => loopE me).bind (tailE me)
  | .W m => ((goOn true m).bind fun _ => loopE me).bind (tailE me)
  | .N2 => (loopE me).bind (tailE me)
  | .O m => (ones 1000 me m).bind (tailE me)
  | .E => tailE me ()
def sd (s : Wd) (i : Nat) : Int := s.ep.said.getD i 0
def Pg.ok (me n : Nat) (sn : List Int) (s : Wd) : Pg → Prop
  | .N0 => sd s me = -1
  | .S m => sd s me = -1 ∧ 0 ≤ m ∧ m ≤ s.ep.now
  | .C k m => k < n ∧ 0 ≤ m ∧ m ≤ s.ep.now ∧ ∀ i, i < k → sd s i ≠ -1 → m ≤ sn.getD i 0
  | .W m => 0 ≤ m ∧ m ≤ s.ep.now ∧ ∀ i, i < n → sd s i ≠ -1 → m ≤ sn.getD i 0
  | .N2 => True
  | .O m => 0 ≤ m
  | .E => True
/-- What holds at any time. -/
structure GrI (n : Nat) (cur : Nat → Option Nat) (sn : List Int) (s : Wd) : Prop where
  len : s.ep.said.length = n
  few : n ≤ 64
  limbo : ∀ l ∈ s.ep.limbo, l = []
  pos : 0 ≤ s.ep.now
  ann : ∀ i, i < n → sd s i ≠ -1 → 0 ≤ sd s i ∧ sd s i ≤ sn.getD i 0 ∧ sn.getD i 0 ≤ s.ep.now ∧ s.ep.now ≤ sn.getD i 0 + 1
  none : ∀ i, i < n → cur i = none → sd s i = -1
def grG (n : Nat) (mes : Nat → Nat) (cur : Nat → Option Nat) (sn : List Int) : Game where
  I := GrI n cur sn
  P := fun j log s => mes j < n ∧ cur (mes j) = some j ∧ (∀ v ∈ log, inR v) ∧ ∃ p : Pg, (begEndP (mes j) n).rest ev0 log = p.prog (mes j) n ∧ p.ok (mes j) n sn s
  D := fun j _ s => cur (mes j) = some j → sd s (mes j) = -1
  m := fun _ _ _ => 0
  H := HB n
section
variable {n : Nat} {mes : Nat → Nat} {cur : Nat → Option Nat} {sn : List Int} {s : Wd}
theorem said_is (h : s.ep.said.length = n) (hn : n ≤ 64) {k : Nat} (hk : k < n) : saidEp (k : Int) s.ep = sd s k := by
  unfold saidEp sd
  rw [if_pos (by simp [isT]; omega)]
  rfl
theorem say_is (h : s.ep.said.length = n) {k : Nat} (hk : k < n) (m : Int) : (sayEp (k : Int) m s.ep).said = s.ep.said.set k m := by
  unfold sayEp
  dsimp only
  rw [if_pos (by simp [isT]; omega)]
  rfl
theorem sd_say (h : s.ep.said.length = n) {k : Nat} (hk : k < n) (m : Int) (i : Nat) : sd (aSay (k : Int) m s).2 i = if k = i then m else sd s i := by
  unfold sd aSay
  dsimp only
  rw [say_is h hk]
  simp only [List.getD_eq_getElem?_getD, List.getElem?_set]
  by_cases e : k = i
  · subst e
    rw [if_pos rfl, if_pos rfl, if_pos (by omega)]
    rfl
  · rw [if_neg e, if_neg e]
/-- Others' places stay as they are, where one thread alone says something. -/
theorem Pg.say {me k : Nat} {m : Int} (h : s.ep.said.length = n) (hk : k < n) (hne : k ≠ me) (hm : m = -1 ∨ s.ep.now ≤ sn.getD k 0) : ∀ p : Pg, p.ok me n sn s → p.ok me n sn (aSay (k : Int) m s).2
  | .N0, q => by show sd _ me = -1; rw [sd_say h hk, if_neg hne]; exact q
  | .S m', q => ⟨by rw [sd_say h hk, if_neg hne]; exact q.1, q.2⟩
  | .C k' m', q => ⟨q.1, q.2.1, q.2.2.1, fun i hi he => by
    rw [sd_say h hk] at he
    by_cases e : k = i
    · subst e
      rw [if_pos rfl] at he
      rcases hm with hm | hm
      · exact absurd hm he
      · exact Int.le_trans q.2.2.1 hm
    · rw [if_neg e] at he; exact q.2.2.2 i hi he⟩
  | .W m', q => ⟨q.1, q.2.1, fun i hi he => by
    rw [sd_say h hk] at he
    by_cases e : k = i
    · subst e
      rw [if_pos rfl] at he
      rcases hm with hm | hm
      · exact absurd hm he
      · exact Int.le_trans q.2.1 hm
    · rw [if_neg e] at he; exact q.2.2 i hi he⟩
  | .N2, _ => trivial
  | .O m', q => q
  | .E, _ => trivial
theorem Pg.swap {me : Nat} (m : Int) : ∀ p : Pg, p.ok me n sn s → p.ok me n sn (aSwap m s).2 := by
  have hle : s.ep.now ≤ (aSwap m s).2.ep.now := by show s.ep.now ≤ (if s.ep.now = m then s.ep.now + 1 else s.ep.now); split <;> omega
  intro p q
  cases p with
  | N0 => exact q
  | S m' => exact ⟨q.1, q.2.1, Int.le_trans q.2.2 hle⟩
  | C k m' => exact ⟨q.1, q.2.1, Int.le_trans q.2.2.1 hle, q.2.2.2⟩
  | W m' => exact ⟨q.1, Int.le_trans q.2.1 hle, q.2.2⟩
  | N2 => trivial
  | O m' => exact q
  | E => trivial
theorem one_is (h : ∀ l ∈ s.ep.limbo, l = []) (me m : Int) : aOne me m s = (0, s) := by
  have e : takeEp me m s.ep = (0, s.ep) := by
    unfold takeEp
    split
    · split
      · rename_i node a l hq
        have := h _ (List.mem_of_getElem? hq)
        simp at this
      · rfl
    · rfl
  unfold aOne
  rw [e]
  rfl
theorem ones_ask (F : Nat) (me m : Int) : ones (F + 1) me m = .ask (aOne me m) fun r => if r = 0 then .ret () else ones F me m := rfl
theorem inR_small {v : Int} (h : -1 ≤ v ∧ v ≤ 50000) : inR v := by unfold inR; omega
set_option maxHeartbeats 4000000 in
/-- Each Step of a thread keeps to the law. -/
theorem gr_move (hI : GrI n cur sn s) {N : Nat} (hok : WdOk N s) (hN : N ≤ 49000) {j : Nat} (hsn : sd s (mes j) = -1 → sn.getD (mes j) 0 = s.ep.now) {log : List Int} (hP : (grG n mes cur sn).P j log s) : Mv (grG n mes cur sn) j log s ((begEndP (mes j) n).run ⟨log, 0, false, s⟩) := by
  obtain ⟨hme, hcur, hlog, p, hr, hp⟩ := hP
  have hnow : inR s.ep.now := inR_small (by have := hok.ep.nb; omega)
  have hH : (grG n mes cur sn).H ⟨log, 0, false, s⟩ := ⟨hI.len, fun _ => hlog⟩
  have hsame : ∀ j' l, j' ≠ j → (grG n mes cur sn).P j' l s → (grG n mes cur sn).P j' l s := fun _ _ _ h => h
  have hcu : ∀ j', j' ≠ j → cur (mes j') = some j' → mes j ≠ mes j' := fun j' hj h e => hj (by rw [← e, hcur] at h; injection h with h; exact h.symm)
  have hlogs : ∀ v, inR v → ∀ u ∈ log ++ [v], inR u := fun v hv u hu => by
    rcases List.mem_append.1 hu with hu | hu
    · exact hlog u hu
    · simp at hu; subst hu; exact hv
  cases p with
  | N0 =>
    refine mv_of hr (ev0_is _) (ev0_is _) tame_now hH hI (Or.inr ⟨_, _, rfl, fun hs => ⟨hme, hcur, hlogs _ hnow, .S s.ep.now, hs, hp, hI.pos, Int.le_refl _⟩⟩) hsame (fun _ _ _ h => h)
  | S m =>
    obtain ⟨hp1, hp2, hp3⟩ := hp
    have hs0 := hsn hp1
    have hI2 : GrI n cur sn (aSay (mes j) m s).2 := by
      refine ⟨(say_len _ _ _).trans hI.len, hI.few, hI.limbo, hI.pos, fun i hi he => ?_, fun i hi hc => ?_⟩
      · rw [sd_say hI.len hme] at he ⊢
        by_cases e : mes j = i
        · subst e
          rw [if_pos rfl]
          show 0 ≤ m ∧ m ≤ _ ∧ _ ≤ s.ep.now ∧ s.ep.now ≤ _ + 1
          omega
        · rw [if_neg e] at he ⊢
          exact hI.ann i hi he
      · rw [sd_say hI.len hme, if_neg (fun e => by rw [← e, hcur] at hc; simp at hc)]
        exact hI.none i hi hc
    refine mv_of hr (ev0_is _) (ev0_is _) (tame_say _ _) hH hI2 (Or.inr ?_) (fun j' l hj h => ⟨h.1, h.2.1, h.2.2.1, by
      obtain ⟨p', h1, h2⟩ := h.2.2.2
      exact ⟨p', h1, Pg.say hI.len hme (hcu j' hj h.2.1) (.inr (by omega)) p' h2⟩⟩) (fun j' v hj h hc => by rw [sd_say hI.len hme, if_neg (hcu j' hj hc)]; exact h hc)
    obtain ⟨n', hn'⟩ : ∃ n', n = n' + 1 := ⟨n - 1, by omega⟩
    refine ⟨aSaid (0 : Nat), fun a => (((if a ≠ -1 ∧ a ≠ m then (.ret false : Wk Bool) else saids n' 1 m).bind fun all => (goOn all m).bind fun _ => loopE (mes j)).bind (tailE (mes j))), by subst hn'; rfl, fun hs => ⟨hme, hcur, hlogs _ (inR_small (by show -1 ≤ (0 : Int) ∧ (0 : Int) ≤ 50000; omega)), .C 0 m, ?_, by omega, hp2, hp3, fun i hi => absurd hi (by omega)⟩⟩
    rw [hs]
    subst hn'
    rfl
  | C k m =>
    obtain ⟨hk, hp2, hp3, hp4⟩ := hp
    have hv : (aSaid (k : Int) s).1 = sd s k := said_is hI.len hI.few hk
    have hvR : inR (aSaid (k : Int) s).1 := by
      rw [hv]
      by_cases e : sd s k = -1
      · rw [e]; exact inR_small (by omega)
      · have := hI.ann k hk e; have := hok.ep.nb; exact inR_small (by omega)
    obtain ⟨q, hq⟩ : ∃ q, n - k = q + 1 := ⟨n - k - 1, by omega⟩
    have hr2 : (begEndP (mes j) n).rest ev0 log = .ask (aSaid (k : Int)) fun a => (((if a ≠ -1 ∧ a ≠ m then (.ret false : Wk Bool) else saids q (k + 1) m).bind fun all => (goOn all m).bind fun _ => loopE (mes j)).bind (tailE (mes j))) := by
      rw [hr]
      show ((saids (n - k) k m).bind fun all => (goOn all m).bind fun _ => loopE (mes j)).bind (tailE (mes j)) = _
      rw [hq]
      rfl
    refine mv_of hr2 (ev0_is _) (ev0_is _) (tame_said _) hH hI (Or.inr ?_) hsame (fun _ _ _ h => h)
    by_cases hb : (aSaid (k : Int) s).1 ≠ -1 ∧ (aSaid (k : Int) s).1 ≠ m
    · rw [if_pos hb]
      exact ⟨_, _, rfl, fun hs => ⟨hme, hcur, hlogs _ hvR, .N2, hs, trivial⟩⟩
    · rw [if_neg hb]
      have h4 : ∀ i, i < k + 1 → sd s i ≠ -1 → m ≤ sn.getD i 0 := fun i hi he => by
        rcases (by omega : i < k ∨ i = k) with hi | rfl
        · exact hp4 i hi he
        · have := (hI.ann i hk he).2.1
          rw [hv] at hb
          have : sd s i = m := by
            rcases Classical.em (sd s i = m) with h | h
            · exact h
            · exact absurd ⟨he, h⟩ hb
          omega
      cases q with
      | zero =>
        refine ⟨_, _, rfl, fun hs => ⟨hme, hcur, hlogs _ hvR, .W m, hs, hp2, hp3, fun i hi he => h4 i (by omega) he⟩⟩
      | succ q =>
        refine ⟨aSaid ((k + 1 : Nat) : Int), fun a => (((if a ≠ -1 ∧ a ≠ m then (.ret false : Wk Bool) else saids q ((k : Int) + 1 + 1) m).bind fun all => (goOn all m).bind fun _ => loopE (mes j)).bind (tailE (mes j))), rfl, fun hs => ⟨hme, hcur, hlogs _ hvR, .C (k + 1) m, ?_, by omega, hp2, hp3, h4⟩⟩
        rw [hs]
        show _ = ((saids (n - (k + 1)) ((k + 1 : Nat) : Int) m).bind fun all => (goOn all m).bind fun _ => loopE (mes j)).bind (tailE (mes j))
        rw [show n - (k + 1) = q + 1 by omega]
        rfl
  | W m =>
    obtain ⟨hp2, hp3, hp4⟩ := hp
    have hle : s.ep.now ≤ (aSwap m s).2.ep.now := by show s.ep.now ≤ (if s.ep.now = m then s.ep.now + 1 else s.ep.now); split <;> omega
    have hI2 : GrI n cur sn (aSwap m s).2 := by
      refine ⟨hI.len, hI.few, hI.limbo, Int.le_trans hI.pos hle, fun i hi he => ?_, hI.none⟩
      have h1 := hI.ann i hi he
      have h2 := hp4 i hi he
      have h3 : (aSwap m s).2.ep.now ≤ sn.getD i 0 + 1 := by
        show (if s.ep.now = m then s.ep.now + 1 else s.ep.now) ≤ _
        split <;> omega
      exact ⟨h1.1, h1.2.1, Int.le_trans h1.2.2.1 hle, h3⟩
    refine mv_of hr (ev0_is _) (ev0_is _) (tame_swap _) hH hI2 (Or.inr ⟨_, _, rfl, fun hs => ⟨hme, hcur, hlogs _ ?_, .N2, hs, trivial⟩⟩) (fun j' l hj h => ⟨h.1, h.2.1, h.2.2.1, by
      obtain ⟨p', h1, h2⟩ := h.2.2.2
      exact ⟨p', h1, Pg.swap m p' h2⟩⟩) (fun j' v hj h => h)
    show inR (bit _)
    unfold bit
    split <;> exact inR_small (by omega)
  | N2 =>
    refine mv_of hr (ev0_is _) (ev0_is _) tame_now hH hI (Or.inr ⟨_, _, rfl, fun hs => ⟨hme, hcur, hlogs _ hnow, .O s.ep.now, hs, hI.pos⟩⟩) hsame (fun _ _ _ h => h)
  | O m =>
    have h0 := one_is hI.limbo (mes j) m
    have hI2 : GrI n cur sn (aOne (mes j) m s).2 := by rw [h0]; exact hI
    refine mv_of hr (ev0_is _) (ev0_is _) (tame_one _ _) hH hI2 (Or.inr ?_) (fun j' l hj h => by rw [h0]; exact h) (fun j' v hj h => by rw [h0]; exact h)
    rw [h0]
    exact ⟨_, _, rfl, fun hs => ⟨hme, hcur, hlogs _ (inR_small (by omega)), .E, hs, trivial⟩⟩
  | E =>
    have hI2 : GrI n cur sn (aSay (mes j) (-1) s).2 := by
      refine ⟨(say_len _ _ _).trans hI.len, hI.few, hI.limbo, hI.pos, fun i hi he => ?_, fun i hi hc => ?_⟩
      · rw [sd_say hI.len hme] at he ⊢
        by_cases e : mes j = i
        · rw [if_pos e] at he; exact absurd rfl he
        · rw [if_neg e] at he ⊢
          exact hI.ann i hi he
      · rw [sd_say hI.len hme, if_neg (fun e => by rw [← e, hcur] at hc; simp at hc)]
        exact hI.none i hi hc
    refine mv_of hr (ev0_is _) (ev0_is _) (tame_say _ _) hH hI2 (Or.inl ⟨[], rfl, fun _ => by rw [sd_say hI.len hme, if_pos rfl], by simp⟩) (fun j' l hj h => ⟨h.1, h.2.1, h.2.2.1, by
      obtain ⟨p', h1, h2⟩ := h.2.2.2
      exact ⟨p', h1, Pg.say hI.len hme (hcu j' hj h.2.1) (.inl rfl) p' h2⟩⟩) (fun j' v hj h hc => by rw [sd_say hI.len hme, if_neg (hcu j' hj hc)]; exact h hc)
end
/-- The times since which they are announced may be told later, up to now. -/
theorem Pg.later {me n : Nat} {a b : List Int} {s : Wd} (h : ∀ i, i < n → sd s i ≠ -1 → a.getD i 0 ≤ b.getD i 0) : ∀ p : Pg, p.ok me n a s → p.ok me n b s
  | .N0, q => q
  | .S m', q => q
  | .C k' m', q => ⟨q.1, q.2.1, q.2.2.1, fun i hi he => Int.le_trans (q.2.2.2 i hi he) (h i (by have := q.1; omega) he)⟩
  | .W m', q => ⟨q.1, q.2.1, fun i hi he => Int.le_trans (q.2.2 i hi he) (h i hi he)⟩
  | .N2, _ => trivial
  | .O m', q => q
  | .E, _ => trivial
section
variable {c : Wc} {w0 w : World} {ws : List Wkr} {Z X : List Piece} {N n : Nat} {mes : Nat → Nat} {cur : Nat → Option Nat} {s : Wd} {Ts : List Th}
theorem gr_later {a b : List Int} (h : Squad (grG n mes cur a) c w0 ws Z w N s Ts X) (hab : ∀ i, i < n → sd s i ≠ -1 → a.getD i 0 ≤ b.getD i 0 ∧ b.getD i 0 ≤ s.ep.now) : Squad (grG n mes cur b) c w0 ws Z w N s Ts X := by
  have hI : GrI n cur a s := h.inv
  refine ⟨h.heap, h.len, (⟨hI.len, hI.few, hI.limbo, hI.pos, fun i hi he => ?_, hI.none⟩ : GrI n cur b s), h.ok, fun i x T hx hT => ?_⟩
  · have := hI.ann i hi he
    have := hab i hi he
    omega
  · have q := h.ths i x T hx hT
    refine ⟨q.work, q.inn, fun hd => ?_, q.over⟩
    obtain ⟨⟨h1, h2, h3, p, h4, h5⟩, h6⟩ := q.goes hd
    exact ⟨⟨h1, h2, h3, p, h4, Pg.later (fun i hi he => (hab i hi he).1) p h5⟩, h6⟩
end
end Go.Proofs.Ythkohomogknddaa
