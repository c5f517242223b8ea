/- Some threads at work in one world, stepped in any order: what each is at, how a Step changes it, how Alone brings one to its end. No condition but on their plain laws. -/
import Derived.Test.YthkohomogknddaaNew
namespace Go.Proofs.Ythkohomogknddaa
open Go Go.RowKit
set_option linter.unusedVariables false
set_option linter.unusedSimpArgs false
set_option maxRecDepth 100000
/-- A thread's work and where it lies. -/
structure Wkr where
  pre : List Piece
  b : Nat
  me : Int
  f : FuncId
  first : Array Value
  cap : Array Value
  p : Wk (List Int)
def Wkr.K (c : Wc) (x : Wkr) : List Piece := x.pre ++ stB c.wb x.me (.func (.func x.f) x.first x.cap) x.b
def Wkr.G (c : Wc) (x : Wkr) (T : Th) : List Piece := x.K c ++ [thP (x.b + 3) T]
def allG (c : Wc) : List Wkr → List Th → List Piece
  | x :: ws, T :: Ts => x.G c T ++ allG c ws Ts
  | _, _ => []
theorem allG_split (c : Wc) : ∀ (i : Nat) (ws : List Wkr) (Ts : List Th) (x : Wkr) (T : Th), ws[i]? = some x → Ts[i]? = some T →
    ∃ A B, (∀ T', allG c ws (Ts.set i T') = (A ++ x.K c) ++ thP (x.b + 3) T' :: B) ∧ allG c ws Ts = (A ++ x.K c) ++ thP (x.b + 3) T :: B
  | 0, y :: ws, U :: Ts, x, T, hx, hT => by
    simp at hx hT
    subst hx hT
    exact ⟨[], allG c ws Ts, fun T' => by simp [allG, Wkr.G], by simp [allG, Wkr.G]⟩
  | i + 1, y :: ws, U :: Ts, x, T, hx, hT => by
    simp at hx hT
    obtain ⟨A, B, h1, h2⟩ := allG_split c i ws Ts x T hx hT
    exact ⟨y.G c U ++ A, B, fun T' => by simp [allG, h1, List.append_assoc], by simp [allG, h2, List.append_assoc]⟩
  | _, [], _, x, T, hx, hT => by simp at hx
  | _, _ :: _, [], x, T, hx, hT => by simp at hT
/-- What each thread is at: P while it goes, D behind its end; I at any time. -/
structure Game where
  I : Wd → Prop
  P : Nat → List Int → Wd → Prop
  D : Nat → List Int → Wd → Prop
  m : Nat → List Int → Wd → Nat
  H : Tst Wd → Prop
/-- What one Step of one thread comes to. -/
structure Game.Move (g : Game) (i : Nat) (log : List Int) (s : Wd) (r : Res (List Int) × Tst Wd) : Prop where
  ns : r.1 ≠ .stuck
  hh : g.H ⟨log, 0, false, s⟩
  inv : g.I r.2.sh
  ok : ∀ N, WdOk N s → WdOk (N + 1) r.2.sh
  len : r.2.log.length ≤ log.length + 1
  wait : r.1 = .wait → g.P i r.2.log r.2.sh ∧ g.m i r.2.log r.2.sh < g.m i log s
  done : ∀ v, r.1 = .done v → g.D i v r.2.sh ∧ v.length ≤ 1000000
  others : ∀ j l, j ≠ i → g.P j l s → g.P j l r.2.sh ∧ g.m j l r.2.sh ≤ g.m j l s
  ended : ∀ j v, g.D j v s → g.D j v r.2.sh
/-- A game's plain law. -/
def Game.plays (g : Game) (ws : List Wkr) : Prop := ∀ (i : Nat) (x : Wkr) (log : List Int) (s : Wd), ws[i]? = some x → g.I s → g.P i log s → g.Move i log s (x.p.run ⟨log, 0, false, s⟩)
/-- What is known of one thread. -/
structure ThOk (g : Game) (i : Nat) (x : Wkr) (T : Th) (s : Wd) (X : List Piece) (M : Nat) : Prop where
  work : T.work = stV x.b
  inn : T.inn = false
  goes : T.done = false → g.P i T.log s ∧ T.log.length ≤ M
  over : T.done = true → ∃ (v : List Int) (a : Option Addr) (cp : Nat), T.out = .slice a v.length cp ∧ v.length ≤ 1000000 ∧ g.D i v s ∧ ∃ j : Nat, X[j]? = some (rowP 2 1 (.slice a v.length cp) v.length (intC v))
/-- What a thread's work's closure is, wherever it stands. -/
def Wkr.does (c : Wc) (g : Game) (w0 : World) (x : Wkr) : Prop := (∀ (K0 B : List Piece) (M : Nat), M ≤ 50000 → Does (wdPl c (K0 ++ x.K c) B (x.b + 3)) c x.me x.f x.first x.cap x.p M g.H w0) ∧ ∀ (y : Array Value) (z : World), (callFunc x.f y).run Try.prog z = .ok (.enter x.f y) z
structure Squad (g : Game) (c : Wc) (w0 : World) (ws : List Wkr) (Z : List Piece) (w : World) (N : Nat) (s : Wd) (Ts : List Th) (X : List Piece) : Prop where
  heap : Heap w0 w (wdL c s ++ (Z ++ allG c ws Ts) ++ X)
  len : Ts.length = ws.length
  inv : g.I s
  ok : WdOk N s
  ths : ∀ i x T, ws[i]? = some x → Ts[i]? = some T → ThOk g i x T s X N
theorem ThOk.grow {g : Game} {i : Nat} {x : Wkr} {T : Th} {s : Wd} {X Y : List Piece} {M M' : Nat} (h : ThOk g i x T s X M) (hM : M ≤ M') : ThOk g i x T s (X ++ Y) M' :=
  ⟨h.work, h.inn, fun hd => ⟨(h.goes hd).1, Nat.le_trans (h.goes hd).2 hM⟩, fun hd => by
    obtain ⟨v, a, cp, h1, h2, h3, j, h4⟩ := h.over hd
    exact ⟨v, a, cp, h1, h2, h3, j, get_left h4⟩⟩
section
variable {g : Game} {c : Wc} {w0 w : World} {ws : List Wkr} {Z X : List Piece} {N : Nat} {s : Wd} {Ts : List Th}
theorem Squad.get (h : Squad g c w0 ws Z w N s Ts X) {i : Nat} {x : Wkr} (hx : ws[i]? = some x) : ∃ T, Ts[i]? = some T := ⟨_, List.getElem?_eq_getElem (by rw [h.len]; exact (List.getElem?_eq_some_iff.1 hx).1)⟩
/-- More is laid down behind. -/
theorem Squad.more {w' : World} {Y : List Piece} {N' : Nat} (h : Squad g c w0 ws Z w N s Ts X) (hh : Heap w0 w' (wdL c s ++ (Z ++ allG c ws Ts) ++ (X ++ Y))) (hN : N ≤ N') : Squad g c w0 ws Z w' N' s Ts (X ++ Y) :=
  ⟨hh, h.len, h.inv, h.ok.up hN, fun i x T hx hT => (h.ths i x T hx hT).grow hN⟩
/-- Another world in which all lies as it did. -/
theorem Squad.same {w' : World} (h : Squad g c w0 ws Z w N s Ts X) (hh : Heap w0 w' (wdL c s ++ (Z ++ allG c ws Ts) ++ X)) : Squad g c w0 ws Z w' N s Ts X := ⟨hh, h.len, h.inv, h.ok, h.ths⟩
/-- Where a thread lies. -/
theorem Squad.th (h : Squad g c w0 ws Z w N s Ts X) {i : Nat} {x : Wkr} {T : Th} (hx : ws[i]? = some x) (hT : Ts[i]? = some T) : ∃ k : Nat, (wdL c s ++ (Z ++ allG c ws Ts) ++ X)[k]? = some (thP (x.b + 3) T) := by
  obtain ⟨A, B, _, h2⟩ := allG_split c i ws Ts x T hx hT
  refine ⟨(wdL c s).length + (Z.length + (A ++ x.K c).length), ?_⟩
  rw [h2, List.append_assoc, List.getElem?_append_right (by omega), Nat.add_sub_cancel_left, List.append_assoc, List.getElem?_append_right (by omega), Nat.add_sub_cancel_left, List.append_assoc, List.getElem?_append_right (by omega)]
  simp
/-- One Step of one of them. -/
theorem Step_sys (h : Squad g c w0 ws Z w N s Ts X) (hg : g.plays ws) {i : Nat} {x : Wkr} {T : Th} (hx : ws[i]? = some x) (hT : Ts[i]? = some T) (hd : x.does c g w0) (hN : N ≤ 49000) :
    Calls Try.prog 29 #[.pointer (some ⟨x.b + 3, 0, none⟩)] w fun e w' => ∃ b s' T' Y, e = .returned (.bool b) ∧ Squad g c w0 ws Z w' (N + 1) s' (Ts.set i T') (X ++ Y) ∧ T'.done = b ∧
      (T.done = true → b = true) ∧ (b = false → g.m i T'.log s' < g.m i T.log s) ∧ (∀ j l, j ≠ i → g.P j l s → g.P j l s' ∧ g.m j l s' ≤ g.m j l s) := by
  have K := h.ths i x T hx hT
  have hil : i < Ts.length := (List.getElem?_eq_some_iff.1 hT).1
  cases hdn : T.done with
  | true =>
    obtain ⟨k, hk⟩ := h.th hx hT
    refine (Step_over h.heap k hk hdn).mono ?_
    rintro e w' ⟨rfl, rfl⟩
    refine ⟨true, s, T, [], rfl, ?_, hdn, fun _ => rfl, fun h0 => by simp at h0, fun _ _ _ hp => ⟨hp, Nat.le_refl _⟩⟩
    rw [List.append_nil, show Ts.set i T = Ts from by
      obtain ⟨_, e⟩ := List.getElem?_eq_some_iff.1 hT
      subst e; exact List.set_getElem_self _]
    exact ⟨h.heap, h.len, h.inv, h.ok.up (Nat.le_succ N), fun i x T hx hT => by have := (h.ths i x T hx hT).grow (Y := []) (Nat.le_succ N); rwa [List.append_nil] at this⟩
  | false =>
    obtain ⟨hp, hlog⟩ := K.goes hdn
    have M := hg i x T.log s hx h.inv hp
    obtain ⟨A, B, hset, hall⟩ := allG_split c i ws Ts x T hx hT
    have eF : ∀ (s : Wd) (T : Th), (wdPl c ((Z ++ A) ++ x.K c) B (x.b + 3)).F s T = wdL c s ++ (Z ++ ((A ++ x.K c) ++ thP (x.b + 3) T :: B)) := fun s T => by
      simp [wdPl, List.append_assoc]
    have hH : Heap w0 w ((wdPl c ((Z ++ A) ++ x.K c) B (x.b + 3)).F s T ++ X) := by
      rw [eF, ← hall]; exact h.heap
    have st : StPl (wdPl c ((Z ++ A) ++ x.K c) B (x.b + 3)) c x.me (.func (.func x.f) x.first x.cap) x.b := by
      refine { bi := 4 + (Z ++ A).length + x.pre.length, g0 := fun s T => ?_, g1 := fun s T => ?_, g2 := fun s T => ?_ }
      all_goals
        rw [eF]
        rw [List.getElem?_append_right (by simp [wdL]; omega)]
        simp only [List.append_assoc]
        rw [List.getElem?_append_right (by simp [wdL]; omega), List.getElem?_append_right (by simp [wdL]; omega)]
        unfold Wkr.K
        simp only [List.append_assoc]
        rw [List.getElem?_append_right (by simp [wdL]; omega), List.getElem?_append_left (by simp [wdL, stB]; omega)]
        have e4 : (wdL c s).length = 4 := rfl
        simp only [List.length_append, e4]
      · have : 4 + (Z.length + A.length) + x.pre.length - 4 - Z.length - A.length - x.pre.length = 0 := by omega
        rw [this]; rfl
      · have : 4 + (Z.length + A.length) + x.pre.length + 1 - 4 - Z.length - A.length - x.pre.length = 1 := by omega
        rw [this]; rfl
      · have : 4 + (Z.length + A.length) + x.pre.length + 2 - 4 - Z.length - A.length - x.pre.length = 2 := by omega
        rw [this]; rfl
    refine (Step_run (X := X) st (hd.1 (Z ++ A) B N (by omega)) hd.2 hH K.work hdn h.ok (by omega) M.hh _ rfl M.ns).mono ?_
    generalize x.p.run ⟨T.log, 0, false, s⟩ = r at *
    obtain ⟨r, x'⟩ := r
    have hoth : ∀ (Y : List Piece) (T' : Th), ThOk g i x T' x'.sh (X ++ Y) (N + 1) → ∀ j y U, ws[j]? = some y → (Ts.set i T')[j]? = some U → ThOk g j y U x'.sh (X ++ Y) (N + 1) := fun Y T' hT' j y U hy hU => by
      by_cases hji : i = j
      · subst hji
        rw [List.getElem?_set_self hil] at hU
        injection hU with hU
        rw [hx] at hy
        injection hy with hy
        subst hU hy
        exact hT'
      · rw [List.getElem?_set_ne hji] at hU
        have q := (h.ths j y U hy hU).grow (Y := Y) (Nat.le_succ N)
        exact ⟨q.work, q.inn, fun hd => ⟨(M.others j U.log (Ne.symm hji) (q.goes hd).1).1, (q.goes hd).2⟩, fun hd => by
          obtain ⟨v, a, cp, h1, h2, h3, h4⟩ := q.over hd
          exact ⟨v, a, cp, h1, h2, M.ended j v h3, h4⟩⟩
    cases r with
    | stuck => exact absurd rfl M.ns
    | wait =>
      rintro e w' ⟨rfl, HH⟩
      obtain ⟨hp', hm'⟩ := M.wait rfl
      have hl := M.len
      refine ⟨false, x'.sh, { T.of x' with inn := false }, [], rfl, ⟨?_, by rw [List.length_set]; exact h.len, M.inv, M.ok N h.ok, hoth [] _ ⟨K.work, rfl, fun _ => ⟨hp', by dsimp only [Th.of] at hl ⊢; omega⟩, fun h0 => by
        have : T.done = true := h0
        rw [hdn] at this; cases this⟩⟩, hdn, fun h0 => by simp at h0, fun _ => hm', fun j l hj hp => M.others j l hj hp⟩
      rw [List.append_nil, hset, ← eF]
      exact HH
    | done v =>
      rintro e w' ⟨a, cp, rfl, HH⟩
      have hv : v.length ≤ 1000000 := (M.done v rfl).2
      refine ⟨true, x'.sh, { T.of x' with inn := false, done := true, out := .slice a v.length cp }, [rowP 2 1 (.slice a v.length cp) v.length (intC v)], rfl, ⟨?_, by rw [List.length_set]; exact h.len, M.inv, M.ok N h.ok, hoth _ _ ⟨K.work, rfl, fun h0 => by simp at h0, fun _ => ⟨v, a, cp, rfl, hv, (M.done v rfl).1, X.length, by simp⟩⟩⟩, rfl, fun _ => rfl, fun h0 => by simp at h0, fun j l hj hp => M.others j l hj hp⟩
      rw [hset, ← eF, ← List.append_assoc]
      exact HH
/-- Those that are at their end stay so. -/
def Kept (Ts Ts' : List Th) : Prop := ∀ (j : Nat) (T : Th), Ts[j]? = some T → T.done = true → ∃ T', Ts'[j]? = some T' ∧ T'.done = true
theorem Kept.refl (Ts : List Th) : Kept Ts Ts := fun _ T h hd => ⟨T, h, hd⟩
theorem Kept.trans {A B C : List Th} (h : Kept A B) (k : Kept B C) : Kept A C := fun j T h1 h2 => by
  obtain ⟨U, h3, h4⟩ := h j T h1 h2
  exact k j U h3 h4
theorem Kept.set {Ts : List Th} {i : Nat} {T T' : Th} (hT : Ts[i]? = some T) (h : T.done = true → T'.done = true) : Kept Ts (Ts.set i T') := fun j U h1 h2 => by
  have hil := (List.getElem?_eq_some_iff.1 hT).1
  by_cases hji : i = j
  · subst hji
    rw [hT] at h1
    injection h1 with h1
    subst h1
    exact ⟨T', List.getElem?_set_self hil, h h2⟩
  · exact ⟨U, by rw [List.getElem?_set_ne hji]; exact h1, h2⟩
set_option maxHeartbeats 4000000 in
/-- Alone brings one of them to its end. -/
theorem Alone_sys (h : Squad g c w0 ws Z w N s Ts X) (hg : g.plays ws) {i : Nat} {x : Wkr} {T : Th} (hx : ws[i]? = some x) (hT : Ts[i]? = some T) (hd : x.does c g w0) (hN : N ≤ 40000) (hm : T.done = false → g.m i T.log s ≤ 2000) :
    Calls Try.prog 19 #[.pointer (some ⟨x.b + 3, 0, none⟩)] w fun e w' => ∃ (v9 : Value) (k : Int) (s' : Wd) (Ts' : List Th) (Y : List Piece) (T' : Th), e = .returned (.tuple #[v9, .int .i64 k, .bool true]) ∧ Squad g c w0 ws Z w' (N + 2001) s' Ts' (X ++ Y) ∧ Ts'[i]? = some T' ∧ T'.done = true ∧ Kept Ts Ts' ∧ (∀ j l, j ≠ i → g.P j l s → g.P j l s' ∧ g.m j l s' ≤ g.m j l s) := by
  have HG := Lib.hid hg
  have HD := Lib.hid hd
  have HS : Hid (∃ s1 Ts1 Y T1, Squad g c w0 ws Z w (N + 0) s1 Ts1 (X ++ Y) ∧ Ts1[i]? = some T1 ∧ (T1.done = false → g.m i T1.log s1 + 0 ≤ 2000) ∧ Kept Ts Ts1 ∧ (∀ j l, j ≠ i → g.P j l s → g.P j l s1 ∧ g.m j l s1 ≤ g.m j l s)) := Lib.hid ⟨s, Ts, [], T, by rw [List.append_nil]; exact h, hT, hm, Kept.refl _, fun j l _ hp => ⟨hp, Nat.le_refl _⟩⟩
  clear h hg hd hT hm
  generalize hb : x.b + 3 = tb at *
  go_enter Try.func19, Try.ntmps19
  go_wp2_with fail
  go_loopw [5] (fun n wr => ∃ k : Nat, n = .int .i64 (k : Nat) ∧ k ≤ 2000 ∧ Hid (∃ s1 Ts1 Y T1, Squad g c w0 ws Z wr (N + k) s1 Ts1 (X ++ Y) ∧ Ts1[i]? = some T1 ∧ (T1.done = false → g.m i T1.log s1 + k ≤ 2000) ∧ Kept Ts Ts1 ∧ (∀ j l, j ≠ i → g.P j l s → g.P j l s1 ∧ g.m j l s1 ≤ g.m j l s))) (fun n _ => 2001 - (intOf n).toNat)
  case atStart => exact ⟨0, rfl, Nat.zero_le _, HS⟩
  case round =>
    clear HS
    obtain ⟨k, rfl, hk, HS⟩ := hrel
    obtain ⟨s1, Ts1, Y, T1, hs, hT1, hm1, hkept, hoth⟩ := HS.out
    have C := Step_sys hs HG.out hx hT1 HD.out (by omega)
    rw [hb] at C
    have C := Lib.hid C
    have HM := Lib.hid (And.intro hm1 (And.intro hkept (And.intro hoth hT1)))
    clear hs hT1 hm1 hkept hoth HS
    go_wp2_with fail
    refine C.out.mono ?_
    rintro e w2 ⟨b, s2, T2, Y2, rfl, H2, hdb, hd1, hmb, ho2⟩
    obtain ⟨hm1, hkept, hoth, hT1⟩ := HM.out
    have hset : (Ts1.set i T2)[i]? = some T2 := List.getElem?_set_self (List.getElem?_eq_some_iff.1 hT1).1
    have hK2 : Kept Ts (Ts1.set i T2) := hkept.trans (Kept.set hT1 (fun h => by rw [hdb]; exact hd1 h))
    rw [List.append_assoc] at H2
    cases b with
    | true =>
      obtain ⟨v, a, cp, h1, h2, h3, j, h4⟩ := (H2.ths i x T2 hx hset).over hdb
      obtain ⟨kt, hkt⟩ := H2.th hx hset
      rw [hb] at hkt
      have hrow : (wdL c s2 ++ (Z ++ allG c ws (Ts1.set i T2)) ++ (X ++ (Y ++ Y2)))[(wdL c s2 ++ (Z ++ allG c ws (Ts1.set i T2))).length + j]? = some (rowP 2 1 (.slice a v.length cp) v.length (intC v)) := by
        rw [List.getElem?_append_right (by omega), Nat.add_sub_cancel_left]; exact h4
      have CO := Lib.hid (Out_some H2.heap kt hkt hdb a v.length cp h1 v ((H2.heap.row _ hrow).rdv) h2)
      have HQ := Lib.hid (And.intro H2 (And.intro hset (And.intro hdb (And.intro hK2 (fun (j : Nat) (l : List Int) (hj : j ≠ i) (hp : g.P j l s) => And.intro (ho2 j l hj (hoth j l hj hp).1).1 (Nat.le_trans (ho2 j l hj (hoth j l hj hp).1).2 (hoth j l hj hp).2))))))
      clear C HM H2 hkt hrow h1 h2 h3 h4 hm1 hkept hoth hT1 hset hK2 hdb hd1 hmb ho2
      go_wp2_with fail
      refine CO.out.mono ?_
      rintro e w3 ⟨a2, c2, rfl, H3⟩
      have HH3 := Lib.hid H3
      clear CO H3
      go_wp2_with fail
      refine bodyPost_ret (v := .tuple #[.slice a2 v.length c2, .int .i64 ((k : Int) + 1), .bool true]) (by simp [results, Try.results19, go_sem]) rfl ?_
      obtain ⟨H2, hset, hdb, hK2, hx9⟩ := HQ.out
      have H4 := H2.more (Y := [rowP 2 1 (.slice a2 v.length c2) v.length (intC v)]) (N' := N + 2001) (by have := HH3.out; rw [List.append_assoc] at this; exact this) (by omega)
      rw [List.append_assoc] at H4
      exact ⟨_, _, s2, _, _, T2, rfl, H4, hset, hdb, hK2, hx9⟩
    | false =>
      have hT1d : T1.done = false := by
        cases h : T1.done with
        | true => exact absurd (hd1 h) (by simp)
        | false => rfl
      have hb1 := hmb rfl
      have hb2 := hm1 hT1d
      have hk1 : k + 1 ≤ 2000 := by omega
      have HQ : Hid (∃ s1 Ts1 Y T1, Squad g c w0 ws Z w2 (N + (k + 1)) s1 Ts1 (X ++ Y) ∧ Ts1[i]? = some T1 ∧ (T1.done = false → g.m i T1.log s1 + (k + 1) ≤ 2000) ∧ Kept Ts Ts1 ∧ (∀ j l, j ≠ i → g.P j l s → g.P j l s1 ∧ g.m j l s1 ≤ g.m j l s)) := Lib.hid ⟨s2, _, _, T2, H2, hset, fun _ => by omega, hK2, fun j l hj hp => ⟨(ho2 j l hj (hoth j l hj hp).1).1, Nat.le_trans (ho2 j l hj (hoth j l hj hp).1).2 (hoth j l hj hp).2⟩⟩
      clear C HM H2 hm1 hkept hoth hT1 hset hK2 hdb hd1 hmb ho2 hb1 hb2
      go_wp2_with fail
      exact ⟨⟨k + 1, by go_num, hk1, HQ⟩, by simp [intOf]; omega⟩
end
end Go.Proofs.Ythkohomogknddaa
