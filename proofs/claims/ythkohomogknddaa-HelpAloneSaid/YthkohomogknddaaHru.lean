/- A record done by one alone: what is answered touch by touch, what it comes to; a helper begun, and alone. No condition but the bounds of size. -/
import Derived.Test.YthkohomogknddaaHdo
namespace Go.Proofs.Ythkohomogknddaa
open Go Go.RowKit
set_option linter.unusedVariables false
set_option linter.unusedSimpArgs false
set_option maxRecDepth 100000
/-- What is known: one record. -/
def evR (n : Int) (c : Rc) : Ev := ⟨fun _ => none, fun m => if m = n then some c else none⟩
theorem evR_is {n : Int} {c : Rc} {s : Wd} : (evR n c).is s ↔ lookRt n s.rt = c := by
  constructor
  · intro h; exact h.rcd n c (by simp [evR])
  · intro h
    refine ⟨fun r nd e => (by simp [evR] at e), fun m d e => ?_⟩
    simp only [evR] at e
    split at e
    · rename_i hm; subst hm
      injection e with e
      rw [h, e]
    · cases e
theorem entOf_put {es : List Ent} {n m : Int} {f : Ent → Ent} : entOf (putOf es n f) m = if m = n then (entOf es m).map f else entOf es m := by
  unfold putOf
  cases he : entOf es n with
  | none =>
    dsimp only
    split
    · rename_i hm; subst hm; rw [he]; rfl
    · rfl
  | some e =>
    dsimp only
    obtain ⟨i, rfl, hi⟩ := entOf_some he
    have hl := (List.getElem?_eq_some_iff.1 hi).1
    by_cases hm : m = (i : Int) + 1
    · subst hm
      rw [if_pos rfl, he]
      unfold entOf
      rw [if_pos (by omega)]
      have : ((i : Int) + 1).toNat - 1 = i := by omega
      rw [this, List.getElem?_set_self hl]; rfl
    · rw [if_neg hm]
      unfold entOf
      split
      · have : ((i : Int) + 1).toNat - 1 = i := by omega
        rw [this, List.getElem?_set_ne (by omega)]
      · rfl
theorem look_setRt (n v m : Int) (r : Rt) : lookRt m (setRt n v r) = lookRt m r := by
  unfold lookRt setRt
  simp only [entOf_put]
  split
  · cases entOf r.es m <;> rfl
  · rfl
theorem look_setAllRt (n m : Int) (r : Rt) : lookRt m (setAllRt n r) = lookRt m r := by
  unfold lookRt setAllRt
  simp only [entOf_put]
  split
  · cases entOf r.es m <;> rfl
  · rfl
section
variable {α : Type} {n : Int} {c : Rc}
theorem Runs.askR {f : Wd → Int × Wd} {k : Int → Wk α} {s s' : Wd} {l : List Int} {v : α} (ht : Tame f) (hk : lookRt n (f s).2.rt = c) (h : Runs (evR n c) (k (f s).1) (f s).2 l v (evR n c) s') : Runs (evR n c) (.ask f k) s ((f s).1 :: l) v (evR n c) s' := .ask ht (Ev.le_refl _) (evR_is.2 hk) h
end
def solI (n : Int) : List (Int × Int) → Wd → List Int × Option Bool × Wd
  | [], s => ([], none, s)
  | (r, i) :: l, s =>
    if (aSwapInfo r i n s).1 = 1 then ((aSwapInfo r i n s).1 :: (solI n l (aSwapInfo r i n s).2).1, (solI n l (aSwapInfo r i n s).2).2)
    else if (aInfo r (aSwapInfo r i n s).2).1 = n then ((aSwapInfo r i n s).1 :: (aInfo r (aSwapInfo r i n s).2).1 :: (solI n l (aInfo r (aSwapInfo r i n s).2).2).1, (solI n l (aInfo r (aSwapInfo r i n s).2).2).2)
    else if allRt n s.rt = true then ([(aSwapInfo r i n s).1, (aInfo r (aSwapInfo r i n s).2).1, 1], some true, (aInfo r (aSwapInfo r i n s).2).2)
    else ([(aSwapInfo r i n s).1, (aInfo r (aSwapInfo r i n s).2).1, 0, 0], some false, (aSet n 0 (aInfo r (aSwapInfo r i n s).2).2).2)
def solM : List Int → Wd → List Int × Wd
  | [], s => ([], s)
  | r :: l, s => (0 :: (solM l (aSetMark r s).2).1, (solM l (aSetMark r s).2).2)
def solF (c : Rc) (s : Wd) : List Int × Wd := match c.nodes with
  | [] => ([], s)
  | r :: _ => ([(aSwapWay r c.way c.old c.new s).1], (aSwapWay r c.way c.old c.new s).2)
def solE (n : Int) (c : Rc) (s : Wd) : List Int × Wd := (0 :: ((solM (keepL c) (aSetAll n s).2).1 ++ ((solF c (solM (keepL c) (aSetAll n s).2).2).1 ++ [0])), (aSet n 2 (solF c (solM (keepL c) (aSetAll n s).2).2).2).2)
def solH (n : Int) (c : Rc) (s : Wd) : List Int × Bool × Wd := match solI n (c.nodes.zip c.infos) s with
  | (l, some b, s') => (l, b, s')
  | (l, none, s') => (l ++ (solE n c s').1, true, (solE n c s').2)
theorem runs_solI {n : Int} {c : Rc} : ∀ (l : List (Int × Int)) (s : Wd), lookRt n s.rt = c → Runs (evR n c) (infosP n l) s (solI n l s).1 (solI n l s).2.1 (evR n c) (solI n l s).2.2 ∧ lookRt n (solI n l s).2.2.rt = c
  | [], s, h => ⟨.ret, h⟩
  | (r, i) :: l, s, h => by
    have h1 : lookRt n (aSwapInfo r i n s).2.rt = c := h
    have h2 : lookRt n (aInfo r (aSwapInfo r i n s).2).2.rt = c := h
    unfold solI infosP
    by_cases e1 : (aSwapInfo r i n s).1 = 1
    · obtain ⟨i1, i2⟩ := runs_solI l (aSwapInfo r i n s).2 h1
      rw [if_pos e1]
      refine ⟨Runs.askR (tame_swapInfo r i n) h1 ?_, i2⟩
      unfold inf1
      rw [if_pos e1]
      exact i1
    · rw [if_neg e1]
      by_cases e2 : (aInfo r (aSwapInfo r i n s).2).1 = n
      · obtain ⟨i1, i2⟩ := runs_solI l (aInfo r (aSwapInfo r i n s).2).2 h2
        rw [if_pos e2]
        refine ⟨Runs.askR (tame_swapInfo r i n) h1 ?_, i2⟩
        unfold inf1
        rw [if_neg e1]
        refine Runs.askR (tame_info r) h2 ?_
        unfold inf2
        rw [if_pos e2]
        exact i1
      · rw [if_neg e2]
        by_cases e3 : allRt n s.rt = true
        · rw [if_pos e3]
          refine ⟨Runs.askR (tame_swapInfo r i n) h1 ?_, h2⟩
          unfold inf1
          rw [if_neg e1]
          refine Runs.askR (tame_info r) h2 ?_
          unfold inf2
          rw [if_neg e2]
          have ea : (aAll n (aInfo r (aSwapInfo r i n s).2).2) = (1, (aInfo r (aSwapInfo r i n s).2).2) := by
            show (bit (allRt n s.rt), _) = _
            rw [e3]; rfl
          have := Runs.askR (k := inf3 n) (s := (aInfo r (aSwapInfo r i n s).2).2) (l := []) (v := some true) (s' := (aInfo r (aSwapInfo r i n s).2).2) (n := n) (c := c) (tame_all n) (by rw [ea]; exact h2) (by rw [ea]; unfold inf3; rw [if_pos rfl]; exact .ret)
          rw [ea] at this
          exact this
        · rw [if_neg e3]
          have h3 : lookRt n (aSet n 0 (aInfo r (aSwapInfo r i n s).2).2).2.rt = c := (look_setRt n 0 n s.rt).trans h
          refine ⟨Runs.askR (tame_swapInfo r i n) h1 ?_, h3⟩
          unfold inf1
          rw [if_neg e1]
          refine Runs.askR (tame_info r) h2 ?_
          unfold inf2
          rw [if_neg e2]
          have ea : (aAll n (aInfo r (aSwapInfo r i n s).2).2) = (0, (aInfo r (aSwapInfo r i n s).2).2) := by
            show (bit (allRt n s.rt), _) = _
            rw [Bool.not_eq_true] at e3
            rw [e3]; rfl
          have := Runs.askR (k := inf3 n) (s := (aInfo r (aSwapInfo r i n s).2).2) (l := [0]) (v := some false) (s' := (aSet n 0 (aInfo r (aSwapInfo r i n s).2).2).2) (n := n) (c := c) (tame_all n) (by rw [ea]; exact h2) (by rw [ea]; unfold inf3; rw [if_neg (show ¬ (0 : Int) = 1 by decide)]; exact Runs.askR (tame_set n 0) h3 .ret)
          rw [ea] at this
          exact this
theorem runs_solM {n : Int} {c : Rc} : ∀ (l : List Int) (s : Wd), lookRt n s.rt = c → Runs (evR n c) (marksP l) s (solM l s).1 () (evR n c) (solM l s).2 ∧ lookRt n (solM l s).2.rt = c
  | [], s, h => ⟨.ret, h⟩
  | r :: l, s, h => by
    obtain ⟨i1, i2⟩ := runs_solM l (aSetMark r s).2 h
    exact ⟨Runs.askR (tame_setMark r) h i1, i2⟩
theorem runs_solF {n : Int} {c : Rc} (s : Wd) (h : lookRt n s.rt = c) : Runs (evR n c) (firstP c) s (solF c s).1 () (evR n c) (solF c s).2 ∧ lookRt n (solF c s).2.rt = c := by
  unfold solF firstP
  cases c.nodes with
  | nil => exact ⟨.ret, h⟩
  | cons r l => exact ⟨Runs.askR (tame_swapWay r _ _ _) h .ret, h⟩
theorem runs_solE {n : Int} {c : Rc} (s : Wd) (h : lookRt n s.rt = c) : Runs (evR n c) (endP n c) s (solE n c s).1 true (evR n c) (solE n c s).2 := by
  have h0 : lookRt n (aSetAll n s).2.rt = c := (look_setAllRt n n s.rt).trans h
  obtain ⟨m1, m2⟩ := runs_solM (keepL c) (aSetAll n s).2 h0
  obtain ⟨f1, f2⟩ := runs_solF (c := c) _ m2
  have h3 : lookRt n (aSet n 2 (solF c (solM (keepL c) (aSetAll n s).2).2).2).2.rt = c := (look_setRt n 2 n _).trans f2
  unfold endP
  refine Runs.askR (tame_setAll n) h0 ?_
  refine m1.bind (f1.bind ?_)
  exact Runs.askR (tame_set n 2) h3 .ret
theorem runs_solH {n : Int} {c : Rc} (s : Wd) (h : lookRt n s.rt = c) (h1 : 0 ≤ c.keep) (h2 : c.nodes.length ≤ c.infos.length) : Runs (evR n c) (helpP n) s (solH n c s).1 (solH n c s).2.1 (evR n c) (solH n c s).2.2 := by
  unfold helpP
  refine Runs.recd (c := c) (by simp [evR]) ?_
  unfold recP
  rw [if_pos ⟨h1, h2⟩]
  obtain ⟨i1, i2⟩ := runs_solI (c.nodes.zip c.infos) s h
  unfold solH
  rcases hq : solI n (c.nodes.zip c.infos) s with ⟨l, r, s'⟩
  rw [hq] at i1 i2
  cases r with
  | some b =>
    have := i1.bind (q := moreP n c) (m := []) (u := b) .ret
    simpa using this
  | none => exact i1.bind (q := moreP n c) (runs_solE s' i2)
theorem runs_helper {n : Int} {c : Rc} (s : Wd) (h : lookRt n s.rt = c) (h1 : 0 ≤ c.keep) (h2 : c.nodes.length ≤ c.infos.length) : Runs (evR n c) (helperP n) s (solH n c s).1 [bit (solH n c s).2.1] (evR n c) (solH n c s).2.2 := by
  have := (runs_solH s h h1 h2).bind (q := fun b => (.ret [bit b] : Wk (List Int))) (m := []) .ret
  rw [List.append_nil] at this
  exact this
section
variable {w0 w : World} {Z : List Piece} {c : Wc} {s : Wd} {N : Nat} {me : Int}
set_option maxHeartbeats 1000000 in
/-- A helper begun, and gone on alone to its end. -/
theorem helper_alone (h : Heap w0 w (wdL c s ++ Z)) (n : Int) (r : Rc) (hl : lookRt n s.rt = r) (hk : 0 ≤ r.keep) (hi : r.nodes.length ≤ r.infos.length) (hok : WdOk N s) (hN : N ≤ 40000) (res : List Int × Bool × Wd) (hres : solH n r s = res) (hlen : res.1.length ≤ 3000) :
    Calls Try.prog 54 #[.pointer (some ⟨c.wb, 0, none⟩), .int .i64 me, .int .i64 n] w fun e z => ∃ tb, e = .returned (.pointer (some ⟨tb, 0, none⟩)) ∧ Hid (Calls Try.prog 19 #[.pointer (some ⟨tb, 0, none⟩)] z fun e z' => ∃ T' a cp a2 cp2, e = .returned (.tuple #[.slice a2 1 cp2, .int .i64 (max res.1.length 1 : Nat), .bool true]) ∧
      Heap w0 z' (wdL c res.2.2 ++ (Z ++ [thP tb T', rowP 2 1 (.slice a 1 cp) 1 (intC [bit res.2.1]), rowP 2 1 (.slice a2 1 cp2) 1 (intC [bit res.2.1])])) ∧ T'.done = true ∧ T'.out = .slice a 1 cp ∧ WdOk (N + max res.1.length 1) res.2.2) := by
  subst hres
  have h1 := h.alloc 2 #[.int .i64 n]
  rw [List.append_assoc] at h1
  generalize hb : w.heap.size = b at *
  generalize hz : w.alloc (.cells #[.int .i64 n] 2) = z at *
  have hgi : ∀ (s : Wd) (Y : List Piece), (wdL c s ++ (Z ++ [blkP b 2 #[.int .i64 n]]) ++ Y)[4 + Z.length]? = some (blkP b 2 #[.int .i64 n]) := fun s Y => by
    rw [List.append_assoc, List.getElem?_append_right (by simp [wdL])]
    simp [wdL]
  have CS := Start_alone2 (me := me) (f := 89) (first := #[]) (cap := #[.pointer (some ⟨b, 0, none⟩)]) (p := helperP n) (H := fun _ => True) h1 (fun M k tb hM => helper_does (wdPl_is c _ _ tb) hM (4 + Z.length) (fun s T => by have := hgi s (stB c.wb me (.func (.func 89) #[] #[.pointer (some ⟨b, 0, none⟩)]) k ++ [thP tb T]); simpa [wdPl, List.append_assoc] using this)) helper_enters hok hN (evR_is.2 hl) (runs_helper s hl hk hi) hlen (by simp) (fun _ _ _ _ => trivial)
  have CC := Lib.hid CS
  have hmf : ∀ (fn : Fn) (first cap : Array Value) (z : World), (Instr.makeFunc fn first cap).run Try.prog z = .ok (.func fn first cap) z := fun _ _ _ _ => rfl
  clear h h1 hgi CS hok
  go_enter Try.func54, Try.ntmps54
  go_wp2_with fail
  refine CC.out.mono ?_
  rintro e z' ⟨tb, rfl, CA⟩
  clear CC
  go_wp2_with fail
  go_ret
  refine ⟨tb, rfl, Lib.hid (CA.out.mono ?_)⟩
  rintro e z2 ⟨T', a, cp, a2, cp2, rfl, H, hd, ho, ok, _⟩
  refine ⟨T', a, cp, a2, cp2, rfl, ?_, hd, ho, ok⟩
  have H2 : Heap w0 z2 ((wdL c (solH n r s).2.2 ++ Z) ++ [blkP b 2 #[.int .i64 n]] ++ [thP tb T', rowP 2 1 (.slice a 1 cp) 1 (intC [bit (solH n r s).2.1]), rowP 2 1 (.slice a2 1 cp2) 1 (intC [bit (solH n r s).2.1])]) := by
    have := H
    simpa [List.append_assoc] using this
  have H3 := H2.mid
  rwa [List.append_assoc] at H3
end
end Go.Proofs.Ythkohomogknddaa
