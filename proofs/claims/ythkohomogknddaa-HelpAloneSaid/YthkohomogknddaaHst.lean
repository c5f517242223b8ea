/- Helpers begun in one world: where each lies. No condition. -/
import Derived.Test.YthkohomogknddaaHmz
import Derived.Test.YthkohomogknddaaSmx
namespace Go.Proofs.Ythkohomogknddaa
open Go Go.RowKit
set_option linter.unusedVariables false
set_option linter.unusedSimpArgs false
set_option maxRecDepth 100000
theorem info_thp : (Try.prog.info? 38).map (fun i => (i.zero, i.size, i.bytes)) = some (some (.pointer none), 1, 8) := by kernel_rfl
def mkW (nb b : Nat) (me n : Int) : Wkr := ⟨[blkP nb 2 #[.int .i64 n]], b, me, 89, #[], #[.pointer (some ⟨nb, 0, none⟩)], helperP n⟩
theorem mkW_does {c : Wc} {g : Game} {w0 : World} (nb b : Nat) (me n : Int) : (mkW nb b me n).does c g w0 := by
  refine ⟨fun K0 B M hM => ?_, helper_enters⟩
  have h := helper_does (w0 := w0) (me := me) (n := n) (nb := nb) (wdPl_is c (K0 ++ (mkW nb b me n).K c) B (b + 3)) hM (4 + K0.length) (fun s T => by
    show (wdL c s ++ ((K0 ++ (mkW nb b me n).K c) ++ thP (b + 3) T :: B))[4 + K0.length]? = _
    rw [List.getElem?_append_right (by simp [wdL])]
    simp only [List.append_assoc]
    rw [List.getElem?_append_right (by simp [wdL])]
    have e4 : (wdL c s).length = 4 := rfl
    rw [e4, show 4 + K0.length - 4 - K0.length = 0 by omega]
    rfl)
  intro w X T x hx hin hf _ hns
  exact h w X T x hx hin hf trivial hns
section
variable {w0 w : World} {l : List Piece}
theorem helper_start (h : Heap w0 w l) (wb : Nat) (me n : Int) : Calls Try.prog 54 #[.pointer (some ⟨wb, 0, none⟩), .int .i64 me, .int .i64 n] w fun e w' => ∃ nb b, e = .returned (.pointer (some ⟨b + 3, 0, none⟩)) ∧ ∀ c : Wc, c.wb = wb → Heap w0 w' (l ++ (mkW nb b me n).G c (newTh (stV b))) := by
  have h1 := h.alloc 2 #[.int .i64 n]
  generalize hb : w.heap.size = b at *
  generalize hz : w.alloc (.cells #[.int .i64 n] 2) = z at *
  have CS := Start_h h1 wb me 89 #[] #[.pointer (some ⟨b, 0, none⟩)]
  generalize z.heap.size = b9 at *
  have CC := Lib.hid CS
  have hmf : ∀ (fn : Fn) (first cap : Array Value) (z : World), (Instr.makeFunc fn first cap).run Try.prog z = .ok (.func fn first cap) z := fun _ _ _ _ => rfl
  clear h h1 CS
  go_enter Try.func54, Try.ntmps54
  go_wp2_with fail
  refine CC.out.mono ?_
  rintro e z' ⟨rfl, H⟩
  have HH := Lib.hid H
  clear H CC
  go_wp2_with fail
  go_ret
  refine ⟨b, b9, rfl, fun c hc => ?_⟩
  subst hc
  have := HH.out
  simpa [Wkr.G, Wkr.K, mkW, List.append_assoc] using this
theorem Heap.swapEnd {A B C : List Piece} (h : Heap w0 w (A ++ B ++ C)) : Heap w0 w (A ++ C ++ B) := by
  refine h.idx (fun i => if i < A.length then i else if i < A.length + C.length then i + B.length else i - C.length) (fun i hi => ?_) (fun i j hi hj e => ?_)
  · simp at hi
    by_cases h1 : i < A.length
    · rw [if_pos h1]
      simp only [List.append_assoc]
      rw [List.getElem?_append_left h1, List.getElem?_append_left h1]
    · rw [if_neg h1]
      by_cases h2 : i < A.length + C.length
      · rw [if_pos h2]
        simp only [List.append_assoc]
        rw [List.getElem?_append_right (by omega), List.getElem?_append_left (by omega), List.getElem?_append_right (by omega), List.getElem?_append_right (by omega)]
        congr 1; omega
      · rw [if_neg h2]
        simp only [List.append_assoc]
        rw [List.getElem?_append_right (by omega), List.getElem?_append_right (by omega), List.getElem?_append_right (by omega), List.getElem?_append_left (by omega)]
        congr 1; omega
  · simp at hi hj
    split at e <;> split at e <;> (try split at e) <;> (try split at e) <;> omega
theorem allG_snoc (c : Wc) (x : Wkr) (T : Th) : ∀ (ws : List Wkr) (Ts : List Th), ws.length = Ts.length → allG c (ws ++ [x]) (Ts ++ [T]) = allG c ws Ts ++ x.G c T
  | [], [], _ => by simp [allG]
  | y :: ws, U :: Ts, h => by simp [allG, allG_snoc c x T ws Ts (by simpa using h), List.append_assoc]
  | [], _ :: _, h => by simp at h
  | _ :: _, [], h => by simp at h
/-- Threads that were begun, and not stepped yet. -/
structure Begun (n : Int) (ws : List Wkr) (Ts : List Th) : Prop where
  len : Ts.length = ws.length
  wk : ∀ (i : Nat) (x : Wkr), ws[i]? = some x → ∃ nb b me, x = mkW nb b me n
  th : ∀ (i : Nat) (x : Wkr) (T : Th), ws[i]? = some x → Ts[i]? = some T → T = newTh (stV x.b)
theorem Begun.nil (n : Int) : Begun n [] [] := ⟨rfl, fun i x h => by simp at h, fun i x T h => by simp at h⟩
theorem Begun.snoc {n : Int} {ws : List Wkr} {Ts : List Th} (h : Begun n ws Ts) (nb b : Nat) (me : Int) : Begun n (ws ++ [mkW nb b me n]) (Ts ++ [newTh (stV b)]) := by
  have hl := h.len
  refine ⟨by simp [hl], fun i x hx => ?_, fun i x T hx hT => ?_⟩
  · rcases Nat.lt_or_ge i ws.length with hi | hi
    · rw [List.getElem?_append_left hi] at hx; exact h.wk i x hx
    · rw [List.getElem?_append_right hi] at hx
      cases hk : i - ws.length with
      | zero => rw [hk] at hx; simp at hx; exact ⟨nb, b, me, hx.symm⟩
      | succ k => rw [hk] at hx; simp at hx
  · rcases Nat.lt_or_ge i ws.length with hi | hi
    · rw [List.getElem?_append_left hi] at hx
      rw [List.getElem?_append_left (by omega)] at hT
      exact h.th i x T hx hT
    · rw [List.getElem?_append_right hi] at hx
      rw [List.getElem?_append_right (by omega), hl] at hT
      cases hk : i - ws.length with
      | zero => rw [hk] at hx hT; simp at hx hT; subst hx hT; rfl
      | succ k => rw [hk] at hx; simp at hx
theorem ptrs_snoc (ws : List Wkr) (nb b : Nat) (me n : Int) : ptrs ws ++ [.pointer (some ⟨b + 3, 0, none⟩)] = ptrs (ws ++ [mkW nb b me n]) := by simp [ptrs, mkW]
end
/-- A helper at its beginning. -/
theorem my_start {k : Nat} {keep : Int} (h0 : 0 ≤ keep) : (helperP 1).rest (evR 1 (myR k keep)) [] = ((wrapP k keep (infosP 1 (((tolds k).zip (List.replicate k 0)).drop 0))).rest (evR 1 (myR k keep)) []) := by
  have e : (evR 1 (myR k keep)).rcd 1 = some (myR k keep) := by simp [evR]
  show (match (evR 1 (myR k keep)).rcd 1 with | some c => ((recP 1 c).bind fun b => (.ret [bit b] : Wk (List Int))).rest (evR 1 (myR k keep)) [] | none => .stuck) = _
  rw [e]
  show ((recP 1 (myR k keep)).bind fun b => (.ret [bit b] : Wk (List Int))).rest (evR 1 (myR k keep)) [] = _
  unfold recP
  rw [if_pos ⟨h0, by show (tolds k).length ≤ (List.replicate k (0 : Int)).length; rw [tolds_len, List.length_replicate]; exact Nat.le_refl _⟩]
  rfl
theorem begun_squad {c : Wc} {w0 w : World} {ws : List Wkr} {Z X : List Piece} {Ts : List Th} {k : Nat} {keep : Int} {q : Nat} {i0 : Nat → Int} {ep : Ep} {x : Hs} (hk : MyOk k keep q i0) (hv : HsInv k keep q i0 x) (hb : Begun 1 ws Ts) (hok : WdOk 10 (hsW k keep ep x))
    (h : Heap w0 w (wdL c (hsW k keep ep x) ++ (Z ++ allG c ws Ts) ++ X)) : Squad (myG k keep q i0 ep 1) c w0 ws Z w 10 (hsW k keep ep x) Ts X := by
  refine ⟨h, hb.len, ⟨x, rfl, hv, fun h => absurd rfl h⟩, hok, fun i y T hy hT => ?_⟩
  have e := hb.th i y T hy hT
  subst e
  refine ⟨rfl, rfl, fun _ => ⟨?_, by simp [newTh]⟩, fun h => by simp [newTh] at h⟩
  obtain ⟨p, f, kk, ok, hp, hr, hpos, _⟩ := my_after hk hv (i := 0) (Nat.zero_le _) (fun j u _ hj => by omega)
  exact ⟨x, p, rfl, ok, (my_start hk.kp).trans (hr.trans hp.symm), by simp [newTh]⟩
theorem begun_plays {ws : List Wkr} {Ts : List Th} {k : Nat} {keep : Int} {q : Nat} {i0 : Nat → Int} {ep : Ep} {σ : Int} (hk : MyOk k keep q i0) (hb : Begun 1 ws Ts) : (myG k keep q i0 ep σ).plays ws := my_plays hk ws (fun i x hx => by
  obtain ⟨nb, b, me, rfl⟩ := hb.wk i x hx
  rfl)
theorem begun_does {c : Wc} {g : Game} {w0 : World} {ws : List Wkr} {Ts : List Th} {n : Int} (hb : Begun n ws Ts) (i : Nat) (x : Wkr) (hx : ws[i]? = some x) : x.does c g w0 := by
  obtain ⟨nb, b, me, rfl⟩ := hb.wk i x hx
  exact mkW_does nb b me n
/-- The state that is there now bounds what comes. -/
theorem Squad.now {c : Wc} {w0 w : World} {ws : List Wkr} {Z X : List Piece} {Ts : List Th} {k : Nat} {keep : Int} {q : Nat} {i0 : Nat → Int} {ep : Ep} {σ : Int} {N : Nat} {s : Wd} (h : Squad (myG k keep q i0 ep σ) c w0 ws Z w N s Ts X) :
    ∃ x, s = hsW k keep ep x ∧ HsInv k keep q i0 x ∧ (σ ≠ 1 → x.st = σ) ∧ Squad (myG k keep q i0 ep x.st) c w0 ws Z w N s Ts X := by
  obtain ⟨x, hs, hv, hσ⟩ := h.inv
  exact ⟨x, hs, hv, hσ, ⟨h.heap, h.len, ⟨x, hs, hv, fun _ => rfl⟩, h.ok, fun i y T hy hT => ⟨(h.ths i y T hy hT).work, (h.ths i y T hy hT).inn, (h.ths i y T hy hT).goes, (h.ths i y T hy hT).over⟩⟩⟩
end Go.Proofs.Ythkohomogknddaa
