/- An operation of touches of a cell (the laws' Make): its work. No condition but the bounds of size. -/
import Derived.Test.YtblijgdmfohfcaaThI
namespace Go.Proofs.Ytblijgdmfohfcaa
open Go Go.RowKit
set_option linter.unusedVariables false
set_option linter.unusedSimpArgs false
/-- How many rounds there may still be. -/
def left (len : Nat) (ip : Value) (wr : World) : Nat := match ip with
  | .pointer (some a) => (match wr.cell? a with | some (.int _ k) => len + 2 - k.toNat | _ => 0)
  | _ => 0
theorem Heap.rowNil {w0 w : World} {l : List Piece} (h : Heap w0 w l) (t : TypeId) (sz : Nat) : Heap w0 w (l ++ [rowP t sz (.slice none 0 0) 0 []]) := h.push (S := fun _ => False) (Fr.refl _ _) ⟨QRow.nil _ _ _, fun g hg => by simp [Value.ownBlock] at hg⟩ (fun _ x => x.elim)
section
variable {w0 w : World} {L : List Piece} {t : TypeId} {sz n b : Nat} {v : Value} {us : List Value} {p q : Piece} {c : Array Value}
theorem Heap.two_grow {wa w' : World} {n' : Nat} {v' : Value} {us' : List Value} (h : Heap w0 w (L ++ [rowP t sz v n us, q])) (hf : Fr nob w wa) (hq : QRow w' t sz v' n' us') (hg : wa.grownBy w' v.ownBlock)
    (hat : ∀ g, v'.ownBlock = some g → (v.ownBlock = some g ∨ wa.heap.size ≤ g) ∧ ∃ c, Blk w' g t c) : Heap w0 w' (L ++ [rowP t sz v' n' us', q]) := by
  have h1 := h.growRow L.length (t := t) (sz := sz) (n := n) (v := v) (us := us) (by simp) hf hq hg hat
  rw [List.set_append_right _ _ (Nat.le_refl _)] at h1
  simpa using h1
theorem Heap.two_set (h : Heap w0 w (L ++ [p, blkP b t c])) (o : Nat) (u : Value) : Heap w0 (w.setCell ⟨b, o, none⟩ u) (L ++ [p, blkP b t (c.setIfInBounds o u)]) := by
  have h1 := h.setCell (L.length + 1) (b := b) (t := t) (c := c) (by simp) o u
  rw [List.set_append_right _ _ (by omega)] at h1
  simpa using h1
theorem Heap.two_next (h : Heap w0 w (L ++ [p, q])) (t2 : TypeId) (c2 : Array Value) : Heap w0 (w.alloc (.cells c2 t2)) (L ++ [p, blkP w.heap.size t2 c2]) := by
  have h1 := h.alloc t2 c2
  have h2 : Heap w0 (w.alloc (.cells c2 t2)) ((L ++ [p]) ++ [q] ++ [blkP w.heap.size t2 c2]) := by simpa using h1
  simpa using h2.mid
end
theorem left_at {len b : Nat} {k : Int} {wr : World} (h : wr.cell? ⟨b, 0, none⟩ = some (.int .i64 k)) : left len (.pointer (some ⟨b, 0, none⟩)) wr = len + 2 - k.toNat := by simp [left, h]
section
variable {w0 w : World} {pl : Pl Ce} {X : List Piece} {s : Ce} {T : Th} {cb A B : Nat}
theorem touch_enters (x : Array Value) (z : World) : (callFunc 34 x).run Try.prog z = .ok (.enter 34 x) z := rfl
set_option maxHeartbeats 8000000 in
set_option maxRecDepth 100000 in
theorem work_calls {pv : Value} {ps : List Tc} (mk : MkPl pl cb A B pv) (h : Heap w0 w (pl.F s T ++ X)) (hin : T.inn = true) (hf : Fit ceOk (T.st s)) (hps : ∀ x ∈ ps, x.ok) (R : RdV w0 pv ps.length 2 (tcC ps)) (hlen : ps.length ≤ 10000) :
    Calls Try.prog 33 #[.pointer (some ⟨pl.tb, 0, none⟩), .pointer (some ⟨A, 0, none⟩), .pointer (some ⟨B, 0, none⟩)] w (WorkPost pl w0 X T ((prg false ps []).run (T.st s))) := by
  obtain ⟨pa, pc, rfl⟩ := R.len
  obtain ⟨i0, hi0, hz0, hz1, hz2⟩ := info_parts info_i64t
  have I0 := Lib.hid (And.intro hi0 (And.intro hz0 (And.intro hz1 hz2)))
  have H1 := ((h.rowNil 2 1).alloc 3 #[.int .i64 0])
  rw [List.append_assoc, List.append_assoc] at H1
  have HH : Hid (Heap w0 (w.alloc (.cells #[.int .i64 ((0 : Nat) : Int)] 3)) (pl.F s T ++ (X ++ [rowP 2 1 (.slice none 0 0) ([] : List Int).length (intC []), blkP w.heap.size 3 #[.int .i64 ((0 : Nat) : Int)]]))) := Lib.hid H1
  have HF := Lib.hid hf
  have HR := Lib.hid R
  have HPS := Lib.hid hps
  have hmf : ∀ (fn : Fn) (first cap : Array Value) (z : World), (Instr.makeFunc fn first cap).run Try.prog z = .ok (.func fn first cap) z := fun _ _ _ _ => rfl
  generalize hP : (prg false ps []).run (T.st s) = res at *
  have HP := Lib.hid hP
  clear h H1 hf R hps hi0 hz0 hz1 hz2 hP
  go_enter Try.func33, Try.ntmps33
  go_wp2_with fail
  go_loopw [5, 6] (fun o ip wr => ∃ (k I : Nat) (s1 : Ce) (T1 : Th) (outs : List Int), ip = .pointer (some ⟨I, 0, none⟩) ∧ Hid (T1.inn = true ∧ ∃ y, T1 = T.of y) ∧ Hid (Fit ceOk (T1.st s1)) ∧ k ≤ ps.length + 1 ∧ outs.length ≤ k ∧ Hid ((prg false (ps.drop k) outs).run (T1.st s1) = res) ∧ Hid (Heap w0 wr (pl.F s1 T1 ++ (X ++ [rowP 2 1 o outs.length (intC outs), blkP I 3 #[.int .i64 (k : Nat)]])))) (fun _ ip wr => left ps.length ip wr)
  case atStart => exact ⟨0, w.heap.size, s, T, [], rfl, Lib.hid ⟨hin, T.st s, rfl⟩, HF, Nat.zero_le _, Nat.zero_le _, HP, HH⟩
  case round =>
    clear HH HF HP
    obtain ⟨k, I, s1, T1, outs, rfl, HT, HF, hk, hol, HP, HH⟩ := hrel
    have KC : ∀ z s2 T2 q n2, Heap w0 z (pl.F s2 T2 ++ (X ++ [q, blkP I 3 #[.int .i64 n2]])) → z.cell? ⟨A, 0, none⟩ = some (.slice pa ps.length pc) ∧ z.cell? ⟨I, 0, none⟩ = some (.int .i64 n2) ∧ z.frozen? ⟨I, 0, none⟩ = false ∧ I < z.heap.size := fun z s2 T2 q n2 hz => by
      have hb := hz.blk ((pl.F s2 T2).length + (X.length + 1)) (b := I) (t := 3) (c := #[.int .i64 n2]) (by rw [List.getElem?_append_right (by omega), Nat.add_sub_cancel_left, List.getElem?_append_right (by omega)]; simp)
      exact ⟨(hz.blk mk.ai (get_left (mk.aget s2 T2))).cell 0, hb.cell 0, hb.froz 0, hb.lt⟩
    obtain ⟨oa, oc, rfl, _, _⟩ := (HH.out.row ((pl.F s1 T1).length + X.length) (t := 2) (sz := 1) (n := outs.length) (us := intC outs) (by rw [List.getElem?_append_right (by omega), Nat.add_sub_cancel_left, List.getElem?_append_right (by omega)]; simp; rfl)).form
    obtain ⟨kA, kI, kz, kl⟩ := KC _ _ _ _ _ HH.out
    obtain ⟨hT, y, hy⟩ := HT.out
    by_cases hlt : k < ps.length
    · obtain ⟨x, hx0⟩ : ∃ x, ps[k]? = some x := ⟨_, List.getElem?_eq_getElem hlt⟩
      have hx := HPS.out x (List.mem_of_getElem? hx0)
      have hd : ps.drop k = x :: ps.drop (k + 1) := by
        rw [List.drop_eq_getElem_cons hlt]
        congr 1
        exact (List.getElem?_eq_some_iff.1 hx0).2
      have C := Do_task HH.out hT HF.out 34 #[] #[.pointer (some ⟨B, 0, none⟩), .pointer (some ⟨A, 0, none⟩), .pointer (some ⟨I, 0, none⟩)] touch_enters (ceDone x) (fun T2 z hok hz => by
        have := touch_calls mk hz (X.length + 1) (I := I) (k := k) (by simp) x hx0 hx HR.out (by unfold ceOk at hok; omega)
        simpa using this)
      cases hr : askT (ceDone x) (T1.st s1) with
      | mk r x' =>
        rw [hr] at C
        have hP := HP.out
        rw [hd, prg_ask] at hP
        cases r with
        | none =>
          rw [run_none hr] at hP
          have CC := Lib.hid C
          have HPP := Lib.hid hP
          have HY := Lib.hid hy
          clear C hP hx hx0 hd hr HP HH KC HF hy
          go_wp2_with fail
          refine CC.out.mono ?_
          rintro e w' ⟨rfl, H⟩
          change bodyPost Try.prog Try.f33 _ (Exit.panic [waitE]) _ _
          refine ⟨rfl, ?_⟩
          rw [← HPP.out]
          refine ⟨rfl, ?_⟩
          rw [HY.out, ← List.append_assoc] at H
          exact H.first
        | some n =>
          rw [run_some hr] at hP
          have CC := Lib.hid C
          have HPP := Lib.hid hP
          have HF' := Lib.hid (HF.out.ask hr)
          have HY := Lib.hid hy
          have HKC := Lib.hid KC
          clear C hP hx hx0 hd hr HP HH KC HF hy
          go_wp2_with fail
          refine CC.out.mono ?_
          rintro e w' ⟨rfl, H⟩
          have HTT : Hid ((T1.of x').inn = true ∧ ∃ y, T1.of x' = T.of y) := Lib.hid ⟨hT, x', by rw [HY.out]; rfl⟩
          rw [← List.append_assoc] at H
          generalize hL : pl.F x'.sh (T1.of x') ++ X = L at *
          have HL := Lib.hid hL
          have QQ := Lib.hid (H.row L.length (t := 2) (sz := 1) (n := outs.length) (v := .slice oa outs.length oc) (us := intC outs) (by simp))
          have HH := Lib.hid H
          have hlm' : outs.length + 1 ≤ maxLen := by unfold maxLen; omega
          have hlb : (outs.length + 1) * 8 ≤ 140737488355328 := by omega
          have HB := Lib.hid (And.intro hlm' hlb)
          clear H CC hlm' hlb hL
          clear kz kl hT
          go_wp2_with (at_builtin; refine wpList_append_typed _ rfl _ _ _ (by rfl) 2 i0 (.int .i64 0) 1 8 Try.underlying26 I0.out.1 I0.out.2.1 I0.out.2.2.1 I0.out.2.2.2 rfl (by decide) (.slice oa outs.length oc) outs.length (intC outs) (by rfl) (QQ.out.fr (F := nob) (by repeat (first | exact Fr.refl _ _ | apply Fr.drew | apply Fr.alloc)) (fun _ _ _ x => x)) _ 1 [.int .i64 n] (by rfl) (RdV.block (cs := #[.int .i64 n]) (t := 2) (by repeat (first | exact Blk.new' rfl _ _ | apply Blk.drew | apply Blk.alloc)) rfl (by decide)) (by simp [Value.oneCell']) HB.out.1 HB.out.2 ?_)
          intro a' c' w8 q' grow hat
          have H8 := HH.out.two_grow (Fr.alloc (Fr.refl nob w') (.cells #[.int .i64 n] 2)) q' grow (fun g hg => (hat g hg).imp_left (fun h => h.imp_right (fun h => by simpa using h)))
          have B8 := H8.blk (L.length + 1) (b := I) (t := 3) (c := #[.int .i64 (k : Nat)]) (by simp)
          have kI8 : w8.cell? ⟨I, 0, none⟩ = some (.int .i64 (k : Nat)) := B8.cell 0
          have kz8 := B8.froz 0
          have kl8 := B8.lt
          have HH8 := Lib.hid H8
          clear H8 B8 q' grow hat QQ HH
          by_cases hn : n.tmod 2 = 0
          · have HN := Lib.hid hn
            go_wp2_with fail
            have H9 := HH8.out.two_next 3 #[.int .i64 ((k + 1 : Nat) : Int)]
            have k9 := (H9.blk (L.length + 1) (b := w8.heap.size) (t := 3) (c := #[.int .i64 ((k + 1 : Nat) : Int)]) (by simp)).cell 0
            have M9 := left_at (len := ps.length) k9
            have M0 := left_at (len := ps.length) kI
            rw [← HL.out, List.append_assoc] at H9
            refine ⟨⟨k + 1, _, x'.sh, T1.of x', outs ++ [n], rfl, HTT, HF', by omega, by simp; omega, Lib.hid (by rw [show (T1.of x').st x'.sh = x' from rfl]; have := HPP.out; simpa [HN.out, prg_skip, Nat.add_assoc] using this), Lib.hid (by simpa [intC] using H9)⟩, ?_⟩
            have hlt2 : ps.length + 2 - (((k + 1 : Nat) : Int)).toNat < ps.length + 2 - ((k : Int)).toNat := by omega
            rw [← M9, ← M0] at hlt2
            simpa using hlt2
          · have HN := Lib.hid hn
            go_wp2_with fail
            have H9 := (HH8.out.two_set 0 (.int .i64 ((k + 1 : Nat) : Int))).two_next 3 #[.int .i64 ((k + 1 + 1 : Nat) : Int)]
            rw [show (w8.setCell ⟨I, 0, none⟩ (.int .i64 ((k + 1 : Nat) : Int))).heap.size = w8.heap.size from by simp [World.setCell]] at H9
            have k9 := (H9.blk (L.length + 1) (b := w8.heap.size) (t := 3) (c := #[.int .i64 ((k + 1 + 1 : Nat) : Int)]) (by simp)).cell 0
            have M9 := left_at (len := ps.length) k9
            have M0 := left_at (len := ps.length) kI
            rw [← HL.out, List.append_assoc] at H9
            refine ⟨⟨k + 1 + 1, _, x'.sh, T1.of x', outs ++ [n], rfl, HTT, HF', by omega, by simp; omega, Lib.hid (by rw [show (T1.of x').st x'.sh = x' from rfl]; have := HPP.out; simpa [HN.out, prg_skip, Nat.add_assoc] using this), Lib.hid (by simpa [intC] using H9)⟩, ?_⟩
            have hlt2 : ps.length + 2 - (((k + 1 + 1 : Nat) : Int)).toNat < ps.length + 2 - ((k : Int)).toNat := by omega
            rw [← M9, ← M0] at hlt2
            simpa using hlt2
    · have hd : ps.drop k = [] := List.drop_eq_nil_of_le (by omega)
      have hP := HP.out
      rw [hd] at hP
      have hP2 : (.done outs, T1.st s1) = res := hP
      have HP2 := Lib.hid hP2
      have HY := Lib.hid hy
      clear hP hP2 HP hd hy KC
      go_wp2_with fail
      go_ret
      rw [← HP2.out]
      refine ⟨oa, oc, rfl, ?_⟩
      have H := HH.out
      rw [← List.append_assoc] at H
      have H2 : Heap w0 wr (pl.F s1 T1 ++ X ++ [rowP 2 1 (.slice oa outs.length oc) outs.length (intC outs)]) := Heap.first (r := [blkP I 3 #[.int .i64 (k : Nat)]]) (by simpa using H)
      have e : T.of (T1.st s1) = T1 := by rw [HY.out]; rfl
      rw [e]
      exact H2
end
end Go.Proofs.Ytblijgdmfohfcaa
