/- A thread: what it is in memory; Do, Step, Ask, in terms of work that asks. No condition but the bounds of size. -/
import Derived.Test.YthkohomogknddaaK1
import Derived.Test.YthkohomogknddaaRows
import Derived.Deep.RegionWith
import Derived.Deep.DeepCutAuto
import Derived.Defers
import Derived.Recover
namespace Go.Proofs.Ythkohomogknddaa
open Go Go.RowKit
set_option linter.unusedVariables false
set_option linter.unusedSimpArgs false
/-- A piece that is many is laid open: its own stand behind the others, nothing stays in its place. -/
theorem Heap.unpack {w0 w : World} {l m : List Piece} (h : Heap w0 w l) (i : Nat) (hi : l[i]? = some (manyP m)) : Heap w0 w (l.set i nilP ++ m) := by
  obtain ⟨f, σ, h1, h2, h3⟩ := h
  obtain ⟨τ, t1, t2, t3⟩ : Many w m (σ i) := h1 i _ hi
  have hil := (List.getElem?_eq_some_iff.1 hi).1
  refine ⟨f, fun j k => if j < l.length then (if j = i then False else σ j k) else τ (j - l.length) k, fun j P hj => ?_, fun j k hk => ?_, fun a b k ha hb => ?_⟩
  · by_cases hl : j < l.length
    · rw [List.getElem?_append_left (by simpa using hl)] at hj
      simp only [hl, if_true]
      by_cases hji : j = i
      · subst hji
        rw [List.getElem?_set_self hil] at hj
        simp at hj
        subst hj
        trivial
      · rw [List.getElem?_set_ne (fun x => hji x.symm)] at hj
        simp only [hji, if_false]
        exact h1 j P hj
    · rw [List.getElem?_append_right (by simpa using hl)] at hj
      simp only [hl, if_false]
      simpa using t1 (j - l.length) P (by simpa using hj)
  · simp only at hk
    split at hk
    · split at hk
      · exact hk.elim
      · exact h2 j k hk
    · exact h2 i k (t2 _ k hk).1
  · simp only at ha hb
    split at ha <;> split at hb
    · split at ha
      · exact ha.elim
      · split at hb
        · exact hb.elim
        · exact h3 a b k ha hb
    · split at ha
      · exact ha.elim
      · rename_i h5 _ h6
        exact (h6 (h3 a i k ha (t2 _ k hb).1)).elim
    · split at hb
      · exact hb.elim
      · rename_i h5 _ h6
        exact (h6 (h3 b i k hb (t2 _ k ha).1)).elim
    · have := t3 _ _ k ha hb
      omega
/-- The last ones go to an empty place, as one. -/
theorem Heap.repack {w0 w : World} {l m : List Piece} {i : Nat} (h : Heap w0 w (l.set i nilP ++ m)) (hil : i < l.length) : Heap w0 w (l.set i (manyP m)) := by
  have h' := h.pack
  have h2 := h'.idx (l' := l.set i (manyP m)) (fun j => if j = i then l.length else j) (fun j hj => ?_) (fun a b ha hb e => ?_)
  · exact h2
  · by_cases hji : j = i
    · subst hji
      simp only [if_true]
      rw [List.getElem?_set_self hil, List.getElem?_append_right (by simp)]
      simp
    · simp only [hji, if_false]
      rw [List.length_set] at hj
      rw [List.getElem?_append_left (by simpa using hj), List.getElem?_set_ne (fun x => hji x.symm), List.getElem?_set_ne (fun x => hji x.symm)]
  · rw [List.length_set] at ha hb
    try simp only at e
    split at e <;> split at e <;> omega
/-- A thread: its work, what it was answered, how far it was told that again, whether its touch is done, whether it goes on, whether it is at its end, what it came to. -/
structure Th where
  work : Value
  log : List Int
  at' : Nat
  spent : Bool
  inn : Bool
  done : Bool
  out : Value
def Th.cells (T : Th) (lv : Value) : Array Value := #[T.work, lv, .int .i64 (T.at' : Nat), .bool T.spent, .bool T.inn, .bool T.done, T.out]
def thL (tb : Nat) (lv : Value) (T : Th) : List Piece := [blkP tb 111 (T.cells lv), rowP 2 1 lv T.log.length (T.log.map (Value.int .i64))]
def thP (tb : Nat) (T : Th) : Piece where
  holds w S := ∃ lv, Many w (thL tb lv T) S
  keep h hf hn _ := by obtain ⟨lv, h⟩ := h; exact ⟨lv, h.keep hf hn⟩
theorem Heap.openTh {w0 w : World} {l : List Piece} (h : Heap w0 w l) (i : Nat) {tb : Nat} {T : Th} (hi : l[i]? = some (thP tb T)) : ∃ a c, Heap w0 w (l.set i nilP ++ thL tb (.slice a T.log.length c) T) := by
  obtain ⟨S, ⟨lv, hM⟩, hs, U⟩ := h.take i hi
  obtain ⟨R, hr, _⟩ := hM.get 1 rfl
  obtain ⟨a, c, rfl, _, _⟩ := hr.1.form
  have h2 := U (p' := manyP (thL tb (.slice a T.log.length c) T)) (S' := S) (Fr.refl _ _) hM (fun _ x => .inl x)
  have h3 := h2.unpack i (List.getElem?_set_self (List.getElem?_eq_some_iff.1 hi).1)
  rw [List.set_set] at h3
  exact ⟨a, c, h3⟩
theorem Heap.shutTh {w0 w : World} {l : List Piece} {i tb : Nat} {T : Th} {lv : Value} (h : Heap w0 w (l.set i nilP ++ thL tb lv T)) (hil : i < l.length) : Heap w0 w (l.set i (thP tb T)) := by
  have h2 := h.repack hil
  obtain ⟨S, hM, hs, U⟩ := h2.take i (p := manyP (thL tb lv T)) (List.getElem?_set_self hil)
  have h3 := U (p' := thP tb T) (S' := S) (Fr.refl _ _) ⟨lv, hM⟩ (fun _ x => .inl x)
  rwa [List.set_set] at h3
/-- Its cells. -/
theorem Heap.thBlk {w0 w : World} {l : List Piece} {i tb : Nat} {T : Th} {lv : Value} (h : Heap w0 w (l.set i nilP ++ thL tb lv T)) : Blk w tb 111 (T.cells lv) :=
  h.blk l.length (by rw [List.getElem?_append_right (by simp)]; simp [thL])
theorem Heap.thRow {w0 w : World} {l : List Piece} {i tb : Nat} {T : Th} {lv : Value} (h : Heap w0 w (l.set i nilP ++ thL tb lv T)) : QRow w 2 1 lv T.log.length (T.log.map (Value.int .i64)) :=
  h.row (l.length + 1) (by rw [List.getElem?_append_right (by simp)]; simp [thL])
/-- One of its cells is another one. -/
theorem Heap.thSet {w0 w : World} {l : List Piece} {i tb : Nat} {T T' : Th} {lv : Value} (h : Heap w0 w (l.set i nilP ++ thL tb lv T)) (o : Nat) (u : Value) (hc : (T.cells lv).setIfInBounds o u = T'.cells lv) (hl : T'.log = T.log) : Heap w0 (w.setCell ⟨tb, o, none⟩ u) (l.set i nilP ++ thL tb lv T') := by
  have h2 := h.setCell l.length (b := tb) (t := 111) (c := T.cells lv) (by rw [List.getElem?_append_right (by simp)]; simp [thL]) o u
  rw [List.set_append_right _ _ (by simp), hc] at h2
  simpa [thL, hl] using h2
theorem thAt0 {l : List Piece} {i tb : Nat} {lv : Value} {T : Th} : (l.set i nilP ++ thL tb lv T)[l.length]? = some (blkP tb 111 (T.cells lv)) := by
  rw [List.getElem?_append_right (by simp)]; simp [thL]
theorem thAt1 {l : List Piece} {i tb : Nat} {lv : Value} {T : Th} : (l.set i nilP ++ thL tb lv T)[l.length + 1]? = some (rowP 2 1 lv T.log.length (T.log.map (Value.int .i64))) := by
  rw [List.getElem?_append_right (by simp)]; simp [thL]
/-- It was told one more. -/
theorem Heap.thMore {w0 w : World} {l : List Piece} {i tb n' : Nat} {T T' : Th} {lv lv' : Value} {us : List Value} (h : Heap w0 w ((l.set i nilP ++ thL tb lv T).set (l.length + 1) (rowP 2 1 lv' n' us))) (u : Value)
    (hc : ((T.cells lv).setIfInBounds 1 lv').setIfInBounds 2 u = T'.cells lv') (hl : T'.log.length = n') (hu : T'.log.map (Value.int .i64) = us) :
    Heap w0 ((w.setCell ⟨tb, 1, none⟩ lv').setCell ⟨tb, 2, none⟩ u) (l.set i nilP ++ thL tb lv' T') := by
  have g1 := h.setCell l.length (b := tb) (t := 111) (c := T.cells lv) (by rw [List.getElem?_set_ne (by omega)]; exact thAt0) 1 lv'
  have hlt : l.length < ((l.set i nilP ++ thL tb lv T).set (l.length + 1) (rowP 2 1 lv' n' us)).length := by simp [thL]
  have g2 := g1.setCell l.length (b := tb) (t := 111) (c := (T.cells lv).setIfInBounds 1 lv') (List.getElem?_set_self hlt) 2 u
  rw [List.set_set, hc] at g2
  subst hl hu
  have e : ((l.set i nilP ++ thL tb lv T).set (l.length + 1) (rowP 2 1 lv' T'.log.length (T'.log.map (Value.int .i64)))).set l.length (blkP tb 111 (T'.cells lv')) = l.set i nilP ++ thL tb lv' T' := by
    rw [List.set_append_right _ _ (by simp), List.set_append_right _ _ (by simp)]
    simp [thL]
  rwa [e] at g2
end Go.Proofs.Ythkohomogknddaa
namespace Go.Proofs.Ythkohomogknddaa
open Go Go.RowKit
set_option linter.unusedVariables false
set_option linter.unusedSimpArgs false
def newTh (work : Value) : Th := ⟨work, [], 0, false, false, false, .slice none 0 0⟩
/-- What a thread panics with when its touch is done. -/
def waitE : PanicEntry := { v := .iface 141 (.agg #[]), recovered := false }
theorem info_i64t : (Try.prog.info? 2).map (fun i => (i.zero, i.size, i.bytes)) = some (some (.int .i64 0), 1, 8) := by kernel_rfl
theorem func_nil (fn : Fn) (first cap : Array Value) (z : World) : (binOp BinOp.eql 43 (.func fn first cap) .nilFunc).run Try.prog z = .ok (.bool false) z := by kernel_rfl
section
variable {w0 w : World} {l : List Piece} {tb : Nat} {T : Th}
theorem ThNew_h (h : Heap w0 w l) (f : FuncId) (first cap : Array Value) : Calls Try.prog 67 #[.func (.func f) first cap] w fun e w' => e = .returned (.pointer (some ⟨w.heap.size, 0, none⟩)) ∧ Heap w0 w' (l ++ [thP w.heap.size (newTh (.func (.func f) first cap))]) := by
  have key : Heap w0 (w.alloc (.cells ((newTh (.func (.func f) first cap)).cells (.slice none 0 0)) 111)) (l ++ [thP w.heap.size (newTh (.func (.func f) first cap))]) := by
    have h1 := h.alloc 111 ((newTh (.func (.func f) first cap)).cells (.slice none 0 0))
    have h2 := h1.push (Fr.refl _ _) (p := rowP 2 1 (.slice none 0 0) 0 []) (S := fun _ => False) ⟨QRow.nil _ _ _, fun g hg => by simp [Value.ownBlock] at hg⟩ (fun _ x => x.elim)
    have h3 : Heap w0 (w.alloc (.cells ((newTh (.func (.func f) first cap)).cells (.slice none 0 0)) 111)) ((l ++ [nilP]).set l.length nilP ++ thL w.heap.size (.slice none 0 0) (newTh (.func (.func f) first cap))) := by
      rw [List.set_append_right _ _ (Nat.le_refl _), Nat.sub_self, List.set_cons_zero, List.append_assoc]
      refine (h2.push (Fr.refl _ _) (p := nilP) (S := fun _ => False) trivial (fun _ x => x.elim)).idx (fun j => if j < l.length then j else if j = l.length then l.length + 2 else j - 1) (fun j hj => ?_) (fun a b ha hb e => ?_)
      · simp [thL] at hj
        by_cases h1 : j < l.length
        · simp only [h1, if_true]
          rw [List.getElem?_append_left h1, List.append_assoc, List.append_assoc, List.getElem?_append_left h1]
        · rcases (by omega : j = l.length ∨ j = l.length + 1 ∨ j = l.length + 2) with rfl | rfl | rfl <;> simp [thL, newTh, show ¬ (l.length + 1 < l.length) from by omega, show ¬ (l.length + 2 < l.length) from by omega]
      · simp [thL] at ha hb
        try simp only at e
        split at e <;> split at e <;> (try split at e) <;> (try split at e) <;> omega
    have h4 := h3.shutTh (by simp)
    rwa [List.set_append_right _ _ (Nat.le_refl _), Nat.sub_self, List.set_cons_zero] at h4
  have K := Lib.hid key
  clear key h
  go_enter Try.func67, Try.ntmps67
  go_wp2
  go_ret
  exact ⟨rfl, K.out⟩
/-- It was told that already. -/
theorem Do_told (h : Heap w0 w l) (i : Nat) (hi : l[i]? = some (thP tb T)) (hin : T.inn = true) (f : FuncId) (first cap : Array Value) (hat : T.at' < T.log.length) (hlm : T.log.length ≤ 1000000) :
    Calls Try.prog 69 #[.pointer (some ⟨tb, 0, none⟩), .func (.func f) first cap] w fun e w' => e = .returned (.int .i64 (T.log.getD T.at' 0)) ∧ Heap w0 w' (l.set i (thP tb { T with at' := T.at' + 1 })) := by
  have hil := (List.getElem?_eq_some_iff.1 hi).1
  obtain ⟨a, c, H⟩ := h.openTh i hi
  have B := H.thBlk
  have c1 : w.cell? ⟨tb, 1, none⟩ = some (.slice a T.log.length c) := B.cell 1
  have c2 : w.cell? ⟨tb, 2, none⟩ = some (.int .i64 (T.at' : Nat)) := B.cell 2
  have c4 : w.cell? ⟨tb, 4, none⟩ = some (.bool true) := by rw [← hin]; exact B.cell 4
  have z2 := B.froz 2
  obtain ⟨g, off, cur, rfl, hb, hcap, hrow⟩ := H.thRow.at (by omega)
  have r1 : w.cell? ⟨g, off + T.at', none⟩ = some (.int .i64 (T.log.getD T.at' 0)) := hrow _ _ (by rw [List.getElem?_map, List.getElem?_eq_getElem hat]; simp [List.getD, List.getElem?_eq_getElem hat])
  have hgt : ¬ tb = g := fun e => hb.ne B (by decide) e.symm
  generalize T.log.getD T.at' 0 = n at *
  have HH := Lib.hid H
  clear H B hrow hb h
  have hnf := fun z => func_nil (.func f) first cap z
  go_enter Try.func69, Try.ntmps69
  go_wp2_with fail
  go_quiet (fail)
  go_wp2_with fail
  go_quiet (fail)
  go_wp2_with fail
  go_ret
  exact ⟨rfl, (((HH.out.drewN _).thSet (T' := { T with at' := T.at' + 1 }) 2 (.int .i64 ((T.at' : Int) + 1)) rfl rfl).shutTh hil).drewN _⟩
/-- Its touch is done: it waits. -/
theorem Do_wait (h : Heap w0 w l) (i : Nat) (hi : l[i]? = some (thP tb T)) (hin : T.inn = true) (f : FuncId) (first cap : Array Value) (hat : T.at' = T.log.length) (hsp : T.spent = true) :
    Calls Try.prog 69 #[.pointer (some ⟨tb, 0, none⟩), .func (.func f) first cap] w fun e w' => e = .panicked [waitE] ∧ Heap w0 w' l := by
  obtain ⟨a, c, H⟩ := h.openTh i hi
  have B := H.thBlk
  have c1 : w.cell? ⟨tb, 1, none⟩ = some (.slice a T.log.length c) := B.cell 1
  have c2 : w.cell? ⟨tb, 2, none⟩ = some (.int .i64 (T.log.length : Nat)) := by rw [← hat]; exact B.cell 2
  have c3 : w.cell? ⟨tb, 3, none⟩ = some (.bool true) := by rw [← hsp]; exact B.cell 3
  have c4 : w.cell? ⟨tb, 4, none⟩ = some (.bool true) := by rw [← hin]; exact B.cell 4
  have GG := Lib.hid h
  clear H B h
  have hnf := fun z => func_nil (.func f) first cap z
  go_enter Try.func69, Try.ntmps69
  go_wp2_with fail
  go_quiet (fail)
  go_wp2_with fail
  exact ⟨rfl, rfl, GG.out.drewN _⟩
/-- Its touch is done now. -/
theorem Do_new (h : Heap w0 w l) (i : Nat) (hi : l[i]? = some (thP tb T)) (hin : T.inn = true) (f : FuncId) (first cap : Array Value) (hat : T.at' = T.log.length) (hsp : T.spent = false) (hlm : T.log.length ≤ 1000000)
    (hent : ∀ (x : Array Value) (z : World), (callFunc f x).run Try.prog z = .ok (.enter f x) z) (n : Int) (l' : List Piece) (hi' : i < l'.length)
    (ht : ∀ z, Heap w0 z (l.set i (thP tb { T with spent := true, inn := false })) → Calls Try.prog f (first ++ cap) z fun e w' => e = .returned (.int .i64 n) ∧ Heap w0 w' (l'.set i (thP tb { T with spent := true, inn := false }))) :
    Calls Try.prog 69 #[.pointer (some ⟨tb, 0, none⟩), .func (.func f) first cap] w fun e w' => e = .returned (.int .i64 n) ∧ Heap w0 w' (l'.set i (thP tb { T with log := T.log ++ [n], at' := T.at' + 1, spent := true })) := by
  have hil := (List.getElem?_eq_some_iff.1 hi).1
  obtain ⟨a, c, H⟩ := h.openTh i hi
  have B := H.thBlk
  have c1 : w.cell? ⟨tb, 1, none⟩ = some (.slice a T.log.length c) := B.cell 1
  have c2 : w.cell? ⟨tb, 2, none⟩ = some (.int .i64 (T.log.length : Nat)) := by rw [← hat]; exact B.cell 2
  have c3 : w.cell? ⟨tb, 3, none⟩ = some (.bool false) := by rw [← hsp]; exact B.cell 3
  have c4 : w.cell? ⟨tb, 4, none⟩ = some (.bool true) := by rw [← hin]; exact B.cell 4
  have z3 := B.froz 3
  have z4 := B.froz 4
  have HH := Lib.hid H
  have HT := Lib.hid ht
  obtain ⟨i0, hi0, hz0, hz1, hz2⟩ := info_parts info_i64t
  have I0 := Lib.hid (And.intro hi0 (And.intro hz0 (And.intro hz1 hz2)))
  clear H B h ht hi0 hz0 hz1 hz2
  have hnf := fun z => func_nil (.func f) first cap z
  go_enter Try.func69, Try.ntmps69
  go_wp2_with fail
  go_quiet (fail)
  go_wp2_with fail
  have G := (((HH.out.drewN nq).thSet (T' := { T with spent := true }) 3 (.bool true) rfl rfl).thSet (T' := { T with spent := true, inn := false }) 4 (.bool false) rfl rfl).shutTh hil
  refine (HT.out _ G).mono ?_
  rintro e w3 ⟨rfl, H3⟩
  clear G HT HH c1 c2 c3 c4 z3 z4 hent hnf
  obtain ⟨a3, d3, H4⟩ := H3.openTh i (List.getElem?_set_self hi')
  rw [List.set_set] at H4
  have c4 : w3.cell? ⟨tb, 4, none⟩ = some (.bool false) := H4.thBlk.cell 4
  have z4 := H4.thBlk.froz 4
  have H5 := H4.thSet (T' := { T with spent := true, inn := T.inn }) 4 (.bool true) (by rw [hin]; rfl) rfl
  go_upto_region 11 with fail
  generalize w3.setCell ⟨tb, 4, none⟩ (.bool true) = w4 at *
  clear c4 z4 H3 H4
  have B := H5.thBlk
  have c1 : w4.cell? ⟨tb, 1, none⟩ = some (.slice a3 T.log.length d3) := B.cell 1
  have c2 : w4.cell? ⟨tb, 2, none⟩ = some (.int .i64 (T.log.length : Nat)) := by rw [← hat]; exact B.cell 2
  have z1 := B.froz 1
  have z2 := B.froz 2
  have HH := Lib.hid H5
  have hlm' : T.log.length + 1 ≤ maxLen := by unfold maxLen; omega
  have hlb : (T.log.length + 1) * 8 ≤ 140737488355328 := by omega
  have HL := Lib.hid (And.intro hlm' hlb)
  have QQ := Lib.hid H5.thRow
  have lt := B.lt
  clear H5 hlm' hlb
  have HB := Lib.hid B
  clear B
  go_wp2_with (at_builtin; refine wpList_append_typed _ rfl _ _ _ (by rfl) 2 i0 (.int .i64 0) 1 8 Try.underlying35 I0.out.1 I0.out.2.1 I0.out.2.2.1 I0.out.2.2.2 rfl (by decide) (.slice a3 T.log.length d3) T.log.length (T.log.map (Value.int .i64)) (by rfl) (QQ.out.fr (F := nob) (by repeat (first | exact Fr.refl _ _ | apply Fr.drew | apply Fr.alloc)) (fun _ _ _ x => x)) _ 1 [.int .i64 n] (by rfl) (RdV.block (cs := #[.int .i64 n]) (t := 2) (by repeat (first | exact Blk.new' rfl _ _ | apply Blk.drew | apply Blk.alloc)) rfl (by decide)) (by simp [Value.oneCell']) HL.out.1 HL.out.2 ?_)
  intro a' c' w' q' grow hat'
  have hnt : (Value.slice a3 T.log.length d3).ownBlock ≠ some tb := fun e => by
    obtain ⟨S, hS, _⟩ := HH.out.get (l'.length + 1) thAt1
    obtain ⟨c, hc⟩ := (hS.2 tb e).2
    exact hc.ne HB.out (by decide) rfl
  have F4 : Fr (fun k => (Value.slice a3 T.log.length d3).ownBlock = some k) w4 w' := Fr.grown (by repeat (first | exact Fr.refl _ _ | apply Fr.drew | apply Fr.alloc)) grow (fun k hk => .inl hk)
  have c1' := F4.cell' c1 hnt
  have c2' := F4.cell' c2 hnt
  have z1' := F4.froz' c1 z1 hnt
  have z2' := F4.froz' c2 z2 hnt
  have G := HH.out.growRow (l'.length + 1) thAt1 (Fr.alloc (Fr.refl nob w4) (.cells #[.int .i64 n] 2)) q' grow (fun g hg => (hat' g hg).imp_left (fun h => h.imp_right (fun h => by simpa using h)))
  have G2 := G.thMore (T' := { T with log := T.log ++ [n], at' := T.at' + 1, spent := true }) (.int .i64 ((T.log.length : Int) + 1)) (by rw [← hat]; rfl) (by simp) (by simp)
  have GG := Lib.hid (G2.shutTh hi')
  clear G G2 q' grow hat' F4 hnt
  go_wp2_with fail
  go_ret
  exact ⟨rfl, GG.out⟩
end
end Go.Proofs.Ythkohomogknddaa
namespace Go.Proofs.Ythkohomogknddaa
open Go Go.RowKit
set_option linter.unusedVariables false
set_option linter.unusedSimpArgs false
theorem wait_some (z : World) : (binOp BinOp.eql 20 (.iface 141 (.agg #[])) .nilIface).run Try.prog z = .ok (.bool false) z := by kernel_rfl
theorem wait_guard (z : World) : (eqGuard BinOp.eql 20 (Operand.tmp 9) (Operand.const Value.nilIface) (.iface 141 (.agg #[])) .nilIface).run Try.prog z = .ok () z := by kernel_rfl
theorem nil_guard (z : World) : (eqGuard BinOp.eql 20 (Operand.tmp 9) (Operand.const Value.nilIface) .nilIface .nilIface).run Try.prog z = .ok () z := by kernel_rfl
theorem nil_none (z : World) : (binOp BinOp.eql 20 .nilIface .nilIface).run Try.prog z = .ok (.bool true) z := by kernel_rfl
theorem wait_is (z : World) : (Instr.typeAssert (.iface 141 (.agg #[])) 20 141 true).run Try.prog z = .ok (.tuple #[.agg #[], .bool true]) z := by kernel_rfl
section
variable {w : World} {A B tb : Nat} {x y : Bool}
set_option maxHeartbeats 4000000 in
set_option maxRecDepth 100000 in
theorem catch_wait (older : List PanicEntry) (hA : w.cell? ⟨A, 0, none⟩ = some (.pointer (some ⟨tb, 0, none⟩))) (h4 : w.cell? ⟨tb, 4, none⟩ = some (.bool x)) (z4 : w.frozen? ⟨tb, 4, none⟩ = false)
    (hB : w.cell? ⟨B, 0, none⟩ = some (.bool y)) (zB : w.frozen? ⟨B, 0, none⟩ = false) (hne : ¬ tb = B) (lB : B < w.heap.size) :
    CallsD Try.prog 93 #[.pointer (some ⟨A, 0, none⟩), .pointer (some ⟨B, 0, none⟩)] (.panicking (waitE :: older)) w fun e u' w' =>
      e = .returned (.tuple #[]) ∧ u' = .panicking ({ waitE with recovered := true } :: older) ∧ w' = ((w.setCell ⟨tb, 4, none⟩ (.bool false)).setCell ⟨B, 0, none⟩ (.bool false)).alloc (.cells #[] 141) := by
  refine callsD_of_wpS Try.func93 rfl fun c₀ cs hu => ?_
  unfold waitE at hu
  apply wpS_seq
  apply wpS_region
  simp [wpOpsS, go_sem, hA, h4, z4, Try.ntmps93, Exit.thenS]
  apply wpS_seq
  apply wpS_region
  simp [wpOpsS, go_sem, recoverD, hu, Exit.thenS]
  have hg := wait_guard
  have hq := wait_some
  have hta := wait_is
  refine wpS_of_wp (Code.wp_mono (Q := fun e a' w' => e = .normal ∧ a'.defers = [] ∧ w' = ((w.setCell ⟨tb, 4, none⟩ (.bool false)).setCell ⟨B, 0, none⟩ (.bool false)).alloc (.cells #[] 141)) ?_ ?_)
  · rintro e a' w' ⟨rfl, hd, rfl⟩
    exact ⟨hd, _, rfl, .tuple #[], by simp [results, Try.results93], rfl, rfl, rfl⟩
  change Code.wp Try.prog _ _ { tmps := #[.pointer (some ⟨A, 0, none⟩), .pointer (some ⟨B, 0, none⟩), .iface 141 (.agg #[]), undef, undef, .pointer (some ⟨tb, 0, none⟩), .pointer (some ⟨tb, 0, none⟩), .pointer (some ⟨tb, 4, none⟩), .iface 141 (.agg #[]), undef, undef, undef, undef, undef, undef, undef, undef, undef, undef], defers := [] } _
  clear hu
  go_wp2_with fail
set_option maxHeartbeats 4000000 in
set_option maxRecDepth 100000 in
theorem catch_idle (hA : w.cell? ⟨A, 0, none⟩ = some (.pointer (some ⟨tb, 0, none⟩))) (h4 : w.cell? ⟨tb, 4, none⟩ = some (.bool x)) (z4 : w.frozen? ⟨tb, 4, none⟩ = false) :
    CallsD Try.prog 93 #[.pointer (some ⟨A, 0, none⟩), .pointer (some ⟨B, 0, none⟩)] .returning w fun e u' w' =>
      e = .returned (.tuple #[]) ∧ u' = .returning ∧ w' = w.setCell ⟨tb, 4, none⟩ (.bool false) := by
  refine callsD_of_wpS Try.func93 rfl fun c₀ cs hu => ?_
  apply wpS_seq
  apply wpS_region
  simp [wpOpsS, go_sem, hA, h4, z4, Try.ntmps93, Exit.thenS]
  apply wpS_seq
  apply wpS_region
  simp [wpOpsS, go_sem, recoverD, hu, Exit.thenS]
  have hg := nil_guard
  have hq := nil_none
  refine wpS_of_wp (Code.wp_mono (Q := fun e a' w' => e = .ret ∧ a'.defers = [] ∧ w' = w.setCell ⟨tb, 4, none⟩ (.bool false)) ?_ ?_)
  · rintro e a' w' ⟨rfl, hd, rfl⟩
    refine ⟨hd, .returning, ?_, .tuple #[], by simp [results, Try.results93], rfl, rfl, rfl⟩
    rw [← hu]
  change Code.wp Try.prog _ _ { tmps := #[.pointer (some ⟨A, 0, none⟩), .pointer (some ⟨B, 0, none⟩), .nilIface, undef, undef, .pointer (some ⟨tb, 0, none⟩), .pointer (some ⟨tb, 0, none⟩), .pointer (some ⟨tb, 4, none⟩), .nilIface, undef, undef, undef, undef, undef, undef, undef, undef, undef, undef], defers := [] } _
  clear hu
  go_wp2_with fail
  trace_state
end
end Go.Proofs.Ythkohomogknddaa
namespace Go.Proofs.Ythkohomogknddaa
open Go Go.RowKit
set_option linter.unusedVariables false
set_option linter.unusedSimpArgs false
theorem leaves_res {P : Program} {fn : Func} {t1 t2 : Array Value} {R : Ending → World → Prop} (h : results fn t1 = results fn t2) : ∀ (ds : List Deferred) (u : FrameMode) (w : World), Leaves P fn t1 R ds u w → Leaves P fn t2 R ds u w
  | [], .returning, w, hl => by
    obtain ⟨v, hr, hR⟩ := hl
    exact ⟨v, h ▸ hr, hR⟩
  | [], .panicking c, w, hl => hl
  | [], .run, w, hl => hl.elim
  | d :: ds, u, w, hl => by
    obtain ⟨hrun, fv, cap, f, args, ht, hi, hc⟩ := hl
    refine ⟨hrun, fv, cap, f, args, ht, hi, hc.mono fun e u' w' hx => ?_⟩
    cases e with
    | returned v => exact leaves_res h ds _ _ hx
    | panicked c => exact leaves_res h ds _ _ hx
    | outgrown => exact hx
theorem run_res (a : Act) (d : Nat) (v : Value) (hd : d ≠ 2) : results Try.f77 (a.put (some d) v).tmps = results Try.f77 a.tmps := by
  have e : (a.put (some d) v).tmps[2]? = a.tmps[2]? := by
    simp only [Act.put]
    rw [Array.getElem?_setIfInBounds_ne hd]
  simp [results, Try.results77, e]
theorem leaves_put {P : Program} {R : Ending → World → Prop} {a : Act} {d : Nat} {v : Value} {u : FrameMode} {w : World} (hd : d ≠ 2) (h : Leaves P Try.f77 (a.put (some d) v).tmps R (a.put (some d) v).defers u w) : Leaves P Try.f77 a.tmps R a.defers u w :=
  leaves_res (run_res a d v hd) a.defers u w h
section
variable {w0 w : World} {l : List Piece} {tb : Nat} {T : Th}
set_option maxHeartbeats 4000000 in
theorem run_wait (h : Heap w0 w l) (i : Nat) (hi : l[i]? = some (thP tb T)) (f : FuncId) (first cap : Array Value) (hwork : T.work = .func (.func f) first cap)
    (hent : ∀ (x : Array Value) (z : World), (callFunc f x).run Try.prog z = .ok (.enter f x) z) (l1 : List Piece) (T1 : Th) (hi1 : i < l1.length)
    (hw : ∀ X z, Heap w0 z (l.set i (thP tb { T with inn := true }) ++ X) → Calls Try.prog f (first.push (.pointer (some ⟨tb, 0, none⟩)) ++ cap) z fun e w' => e = .panicked [waitE] ∧ Heap w0 w' (l1.set i (thP tb T1) ++ X)) :
    Calls Try.prog 77 #[.pointer (some ⟨tb, 0, none⟩)] w fun e w' => e = .returned (.bool false) ∧ Heap w0 w' (l1.set i (thP tb { T1 with inn := false })) := by
  have hil := (List.getElem?_eq_some_iff.1 hi).1
  have B0 := (h.openTh i hi)
  obtain ⟨a, c, H0⟩ := B0
  have lt := H0.thBlk.lt
  have c0 : w.cell? ⟨tb, 0, none⟩ = some (.func (.func f) first cap) := by rw [← hwork]; exact H0.thBlk.cell 0
  have c4 : w.cell? ⟨tb, 4, none⟩ = some (.bool T.inn) := H0.thBlk.cell 4
  have z4 := H0.thBlk.froz 4
  have hs : (w.setCell ⟨tb, 4, none⟩ (.bool true)).heap.size = w.heap.size := by simp [World.setCell]
  have G0 := (((H0.thSet (T' := { T with inn := true }) 4 (.bool true) rfl rfl).shutTh hil).alloc 38 #[.pointer (some ⟨tb, 0, none⟩)]).alloc 4 #[.bool false]
  have hs2 : ((w.setCell ⟨tb, 4, none⟩ (.bool true)).alloc (.cells #[.pointer (some ⟨tb, 0, none⟩)] 38)).heap.size = w.heap.size + 1 := by simp [World.setCell]
  rw [hs, hs2, List.append_assoc] at G0
  have HG := Lib.hid G0
  have HW := Lib.hid hw
  clear h H0 hw G0 hs hs2
  have hmf : ∀ (fn : Fn) (first cap : Array Value) (z : World), (Instr.makeFunc fn first cap).run Try.prog z = .ok (.func fn first cap) z := fun _ _ _ _ => rfl
  go_enter_defers Try.func77, Try.ntmps77
  go_wp2_with fail
  generalize hH : w.heap.size = H at *
  have G1 := HG.out
  clear HG c0 c4 z4
  generalize hW : ((w.setCell ⟨tb, 4, none⟩ (.bool true)).alloc (.cells #[.pointer (some ⟨tb, 0, none⟩)] 38)).alloc (.cells #[.bool false] 4) = W at *
  clear hW hH lt
  have dA : W.cell? ⟨H, 0, none⟩ = some (.pointer (some ⟨tb, 0, none⟩)) := (G1.blk l.length (b := H) (t := 38) (c := #[.pointer (some ⟨tb, 0, none⟩)]) (by rw [List.getElem?_append_right (by simp)]; simp)).cell 0
  have d0 : W.cell? ⟨tb, 0, none⟩ = some (.func (.func f) first cap) := by
    obtain ⟨_, _, Go⟩ := G1.openTh i (by rw [List.getElem?_append_left (by simpa using hil), List.getElem?_set_self hil])
    rw [← hwork]; exact Go.thBlk.cell 0
  have GG := Lib.hid G1
  clear G1
  have q0 : W.cell? ⟨H, 0, none⟩ = some (.pointer (some ⟨tb, 0, none⟩)) ∧ W.cell? ⟨tb, 0, none⟩ = some (.func (.func f) first cap) := ⟨dA, d0⟩
  refine AnyK.start (ks := []) (S := fun w' => w'.cell? ⟨H, 0, none⟩ = some (.pointer (some ⟨tb, 0, none⟩)) ∧ w'.cell? ⟨tb, 0, none⟩ = some (.func (.func f) first cap)) (by kernel_rfl) (by exact q0) (fun _ => ?_)
  refine AnyK.take (i := 0) (v := ?_) rfl (by kernel_rfl) (by kernel_rfl) (by kernel_rfl) (by kernel_rfl) (fun _ _ _ h => leaves_put (by decide) h) (Or.inl ⟨by rfl, ?_⟩) (by exact q0) ?_
  rotate_left
  focus
    intro w9 hSw
    try dsimp only at hSw
    go_simp
    try with_reducible rfl
  try simp only [Act.put, List.setIfInBounds_toArray, List.set_cons_zero, List.set_cons_succ]
  refine AnyK.take (i := 1) (v := ?_) rfl (by kernel_rfl) (by kernel_rfl) (by kernel_rfl) (by kernel_rfl) (fun _ _ _ h => leaves_put (by decide) h) (Or.inl ⟨by rfl, ?_⟩) (by exact q0) ?_
  rotate_left
  focus
    intro w9 hSw
    try dsimp only at hSw
    go_simp
    try with_reducible rfl
  try simp only [Act.put, List.setIfInBounds_toArray, List.set_cons_zero, List.set_cons_succ]
  refine AnyK.take (i := 2) (v := ?_) rfl (by kernel_rfl) (by kernel_rfl) (by kernel_rfl) (by kernel_rfl) (fun _ _ _ h => leaves_put (by decide) h) (Or.inl ⟨by rfl, ?_⟩) (by exact q0) ?_
  rotate_left
  focus
    intro w9 hSw
    try dsimp only at hSw
    go_simp
    try with_reducible rfl
  try simp only [Act.put, List.setIfInBounds_toArray, List.set_cons_zero, List.set_cons_succ]
  refine AnyK.take (i := 3) (v := ?_) rfl (by kernel_rfl) (by kernel_rfl) (by kernel_rfl) (by kernel_rfl) (fun _ _ _ h => leaves_put (by decide) h) (Or.inl ⟨by rfl, ?_⟩) (by exact q0) ?_
  rotate_left
  focus
    intro w9 hSw
    try dsimp only at hSw
    go_simp
    try with_reducible rfl
  try simp only [Act.put, List.setIfInBounds_toArray, List.set_cons_zero, List.set_cons_succ]
  refine AnyK.take (i := 4) (v := ?_) rfl (by kernel_rfl) (by kernel_rfl) (by kernel_rfl) (by kernel_rfl) (fun _ _ _ h => leaves_put (by decide) h) (Or.inl ⟨by rfl, ?_⟩) (by exact q0) ?_
  rotate_left
  focus
    intro w9 hSw
    try dsimp only at hSw
    go_simp
    try with_reducible rfl
  try simp only [Act.put, List.setIfInBounds_toArray, List.set_cons_zero, List.set_cons_succ]
  refine AnyK.take (i := 5) (v := ?_) rfl (by kernel_rfl) (by kernel_rfl) (by kernel_rfl) (by kernel_rfl) (fun _ _ _ h => leaves_put (by decide) h) (Or.inl ⟨by rfl, ?_⟩) (by exact q0) ?_
  rotate_left
  focus
    intro w9 hSw
    try dsimp only at hSw
    go_simp
    try with_reducible rfl
  try simp only [Act.put, List.setIfInBounds_toArray, List.set_cons_zero, List.set_cons_succ]
  refine AnyK.one (i := 6) (by kernel_rfl) rfl (fun K hK => ?_)
  go_simp
  refine (HW.out _ W.drew GG.out.drew).mono ?_
  rintro e w' ⟨rfl, H3⟩
  change bodyPostD Try.prog Try.f77 _ (Exit.panic [waitE]) _ _
  clear hK K HW GG q0 dA d0
  have dA : w'.cell? ⟨H, 0, none⟩ = some (.pointer (some ⟨tb, 0, none⟩)) := (H3.blk l1.length (b := H) (t := 38) (c := #[.pointer (some ⟨tb, 0, none⟩)]) (by rw [List.getElem?_append_right (by simp)]; simp)).cell 0
  have BB := H3.blk (l1.length + 1) (b := H + 1) (t := 4) (c := #[.bool false]) (by rw [List.getElem?_append_right (by simp)]; simp)
  have dB : w'.cell? ⟨H + 1, 0, none⟩ = some (.bool false) := BB.cell 0
  obtain ⟨_, _, Go⟩ := H3.openTh (T := T1) (tb := tb) i (by rw [List.getElem?_append_left (by simpa using hi1)]; exact List.getElem?_set_self hi1)
  have d4 : w'.cell? ⟨tb, 4, none⟩ = some (.bool T1.inn) := Go.thBlk.cell 4
  have z4 := Go.thBlk.froz 4
  have hne : ¬ tb = H + 1 := fun e => by
    have hb := Go.thBlk
    subst e
    exact hb.ne BB (by decide) rfl
  have G5 := (Go.thSet (T' := { T1 with inn := false }) 4 (.bool false) rfl rfl).shutTh (by simp; omega)
  rw [List.set_append_left _ _ (by simpa using hi1), List.set_set] at G5
  have G6 := G5.setCell (l1.length + 1) (b := H + 1) (t := 4) (c := #[.bool false]) (by rw [List.getElem?_append_right (by simp)]; simp) 0 (.bool false)
  rw [List.set_append_right _ _ (by simp)] at G6
  have G7 := (G6.skip (.cells #[] 141))
  have e7 : ((((w'.setCell ⟨tb, 4, none⟩ (.bool false)).setCell ⟨H + 1, 0, none⟩ (.bool false)).alloc (.cells #[] 141))).cell? ⟨H + 1, 0, none⟩ = some (.bool false) := (G7.blk (l1.length + 1) (b := H + 1) (t := 4) (c := #[.bool false]) (by rw [List.getElem?_append_right (by simp)]; simp)).cell 0
  have GF := G7.first
  refine leaves_cons (f := 93) (args := #[.pointer (some ⟨H, 0, none⟩), .pointer (some ⟨H + 1, 0, none⟩)]) (by simp) (by simp [go_sem]) ?_
  refine (catch_wait [] dA d4 z4 dB (BB.froz 0) hne BB.lt).mono ?_
  rintro e u' w'' ⟨rfl, rfl, rfl⟩
  simp [Leaves, settle, results, Try.results77, go_sem, e7]
  exact GF
set_option maxHeartbeats 4000000 in
theorem run_done (h : Heap w0 w l) (i : Nat) (hi : l[i]? = some (thP tb T)) (f : FuncId) (first cap : Array Value) (hwork : T.work = .func (.func f) first cap)
    (hent : ∀ (x : Array Value) (z : World), (callFunc f x).run Try.prog z = .ok (.enter f x) z) (l1 : List Piece) (T1 : Th) (hi1 : i < l1.length) (hw1 : T1.work = T.work) (E : Value → List Piece)
    (hw : ∀ X z, Heap w0 z (l.set i (thP tb { T with inn := true }) ++ X) → Calls Try.prog f (first.push (.pointer (some ⟨tb, 0, none⟩)) ++ cap) z fun e w' => ∃ a n c, e = .returned (.slice a n c) ∧ Heap w0 w' (l1.set i (thP tb T1) ++ X ++ E (.slice a n c))) :
    Calls Try.prog 77 #[.pointer (some ⟨tb, 0, none⟩)] w fun e w' => ∃ a n c, e = .returned (.bool true) ∧ Heap w0 w' (l1.set i (thP tb { T1 with inn := false, done := true, out := .slice a n c }) ++ E (.slice a n c)) := by
  have hil := (List.getElem?_eq_some_iff.1 hi).1
  have B0 := (h.openTh i hi)
  obtain ⟨a, c, H0⟩ := B0
  have lt := H0.thBlk.lt
  have c0 : w.cell? ⟨tb, 0, none⟩ = some (.func (.func f) first cap) := by rw [← hwork]; exact H0.thBlk.cell 0
  have c4 : w.cell? ⟨tb, 4, none⟩ = some (.bool T.inn) := H0.thBlk.cell 4
  have z4 := H0.thBlk.froz 4
  have hs : (w.setCell ⟨tb, 4, none⟩ (.bool true)).heap.size = w.heap.size := by simp [World.setCell]
  have G0 := (((H0.thSet (T' := { T with inn := true }) 4 (.bool true) rfl rfl).shutTh hil).alloc 38 #[.pointer (some ⟨tb, 0, none⟩)]).alloc 4 #[.bool false]
  have hs2 : ((w.setCell ⟨tb, 4, none⟩ (.bool true)).alloc (.cells #[.pointer (some ⟨tb, 0, none⟩)] 38)).heap.size = w.heap.size + 1 := by simp [World.setCell]
  rw [hs, hs2, List.append_assoc] at G0
  have HG := Lib.hid G0
  have HW := Lib.hid hw
  clear h H0 hw G0 hs hs2
  have hmf : ∀ (fn : Fn) (first cap : Array Value) (z : World), (Instr.makeFunc fn first cap).run Try.prog z = .ok (.func fn first cap) z := fun _ _ _ _ => rfl
  go_enter_defers Try.func77, Try.ntmps77
  go_wp2_with fail
  generalize hH : w.heap.size = H at *
  have G1 := HG.out
  clear HG c0 c4 z4
  generalize hW : ((w.setCell ⟨tb, 4, none⟩ (.bool true)).alloc (.cells #[.pointer (some ⟨tb, 0, none⟩)] 38)).alloc (.cells #[.bool false] 4) = W at *
  clear hW hH lt
  have dA : W.cell? ⟨H, 0, none⟩ = some (.pointer (some ⟨tb, 0, none⟩)) := (G1.blk l.length (b := H) (t := 38) (c := #[.pointer (some ⟨tb, 0, none⟩)]) (by rw [List.getElem?_append_right (by simp)]; simp)).cell 0
  have d0 : W.cell? ⟨tb, 0, none⟩ = some (.func (.func f) first cap) := by
    obtain ⟨_, _, Go⟩ := G1.openTh i (by rw [List.getElem?_append_left (by simpa using hil), List.getElem?_set_self hil])
    rw [← hwork]; exact Go.thBlk.cell 0
  have GG := Lib.hid G1
  clear G1
  have q0 : W.cell? ⟨H, 0, none⟩ = some (.pointer (some ⟨tb, 0, none⟩)) ∧ W.cell? ⟨tb, 0, none⟩ = some (.func (.func f) first cap) := ⟨dA, d0⟩
  refine AnyK.start (ks := []) (S := fun w' => w'.cell? ⟨H, 0, none⟩ = some (.pointer (some ⟨tb, 0, none⟩)) ∧ w'.cell? ⟨tb, 0, none⟩ = some (.func (.func f) first cap)) (by kernel_rfl) (by exact q0) (fun _ => ?_)
  refine AnyK.take (i := 0) (v := ?_) rfl (by kernel_rfl) (by kernel_rfl) (by kernel_rfl) (by kernel_rfl) (fun _ _ _ h => leaves_put (by decide) h) (Or.inl ⟨by rfl, ?_⟩) (by exact q0) ?_
  rotate_left
  focus
    intro w9 hSw
    try dsimp only at hSw
    go_simp
    try with_reducible rfl
  try simp only [Act.put, List.setIfInBounds_toArray, List.set_cons_zero, List.set_cons_succ]
  refine AnyK.take (i := 1) (v := ?_) rfl (by kernel_rfl) (by kernel_rfl) (by kernel_rfl) (by kernel_rfl) (fun _ _ _ h => leaves_put (by decide) h) (Or.inl ⟨by rfl, ?_⟩) (by exact q0) ?_
  rotate_left
  focus
    intro w9 hSw
    try dsimp only at hSw
    go_simp
    try with_reducible rfl
  try simp only [Act.put, List.setIfInBounds_toArray, List.set_cons_zero, List.set_cons_succ]
  refine AnyK.take (i := 2) (v := ?_) rfl (by kernel_rfl) (by kernel_rfl) (by kernel_rfl) (by kernel_rfl) (fun _ _ _ h => leaves_put (by decide) h) (Or.inl ⟨by rfl, ?_⟩) (by exact q0) ?_
  rotate_left
  focus
    intro w9 hSw
    try dsimp only at hSw
    go_simp
    try with_reducible rfl
  try simp only [Act.put, List.setIfInBounds_toArray, List.set_cons_zero, List.set_cons_succ]
  refine AnyK.take (i := 3) (v := ?_) rfl (by kernel_rfl) (by kernel_rfl) (by kernel_rfl) (by kernel_rfl) (fun _ _ _ h => leaves_put (by decide) h) (Or.inl ⟨by rfl, ?_⟩) (by exact q0) ?_
  rotate_left
  focus
    intro w9 hSw
    try dsimp only at hSw
    go_simp
    try with_reducible rfl
  try simp only [Act.put, List.setIfInBounds_toArray, List.set_cons_zero, List.set_cons_succ]
  refine AnyK.take (i := 4) (v := ?_) rfl (by kernel_rfl) (by kernel_rfl) (by kernel_rfl) (by kernel_rfl) (fun _ _ _ h => leaves_put (by decide) h) (Or.inl ⟨by rfl, ?_⟩) (by exact q0) ?_
  rotate_left
  focus
    intro w9 hSw
    try dsimp only at hSw
    go_simp
    try with_reducible rfl
  try simp only [Act.put, List.setIfInBounds_toArray, List.set_cons_zero, List.set_cons_succ]
  refine AnyK.take (i := 5) (v := ?_) rfl (by kernel_rfl) (by kernel_rfl) (by kernel_rfl) (by kernel_rfl) (fun _ _ _ h => leaves_put (by decide) h) (Or.inl ⟨by rfl, ?_⟩) (by exact q0) ?_
  rotate_left
  focus
    intro w9 hSw
    try dsimp only at hSw
    go_simp
    try with_reducible rfl
  try simp only [Act.put, List.setIfInBounds_toArray, List.set_cons_zero, List.set_cons_succ]
  refine AnyK.one (i := 6) (by kernel_rfl) rfl (fun K hK => ?_)
  go_simp
  refine (HW.out _ W.drew GG.out.drew).mono ?_
  rintro e w' ⟨a, n, c, rfl, H3⟩
  rw [List.append_assoc] at H3
  have dA1 : w'.cell? ⟨H, 0, none⟩ = some (.pointer (some ⟨tb, 0, none⟩)) := (H3.blk l1.length (b := H) (t := 38) (c := #[.pointer (some ⟨tb, 0, none⟩)]) (by rw [List.getElem?_append_right (by simp)]; simp)).cell 0
  have BB := H3.blk (l1.length + 1) (b := H + 1) (t := 4) (c := #[.bool false]) (by rw [List.getElem?_append_right (by simp)]; simp)
  have BA := H3.blk l1.length (b := H) (t := 38) (c := #[.pointer (some ⟨tb, 0, none⟩)]) (by rw [List.getElem?_append_right (by simp)]; simp)
  obtain ⟨_, _, Go⟩ := H3.openTh (T := T1) (tb := tb) i (by rw [List.getElem?_append_left (by simpa using hi1)]; exact List.getElem?_set_self hi1)
  have d1 : w'.cell? ⟨tb, 0, none⟩ = some (.func (.func f) first cap) := by rw [← hwork, ← hw1]; exact Go.thBlk.cell 0
  refine hK.out _ _ (fun _ => ⟨dA1, d1⟩) ?_
  clear hK K HW GG q0 dA d0
  have hneA : ¬ tb = H := fun e => by
    have hb := Go.thBlk
    subst e
    exact hb.ne BA (by decide) rfl
  have hneB : ¬ tb = H + 1 := fun e => by
    have hb := Go.thBlk
    subst e
    exact hb.ne BB (by decide) rfl
  have hneA' : ¬ H = tb := fun e => hneA e.symm
  have d6 : w'.cell? ⟨tb, 6, none⟩ = some T1.out := Go.thBlk.cell 6
  have d5 : w'.cell? ⟨tb, 5, none⟩ = some (.bool T1.done) := Go.thBlk.cell 5
  have z5 := Go.thBlk.froz 5
  have z6 := Go.thBlk.froz 6
  have dB : w'.cell? ⟨H + 1, 0, none⟩ = some (.bool false) := BB.cell 0
  have zB := BB.froz 0
  have GO := Lib.hid Go
  clear H3 Go BA BB
  try simp only [Act.put, List.setIfInBounds_toArray, List.set_cons_zero, List.set_cons_succ]
  refine AnyK.one (i := 7) (by kernel_rfl) rfl (fun K hK => ?_)
  go_simp
  refine hK.out _ _ (fun _ => ⟨dA1, d1⟩) ?_
  clear hK K
  try simp only [Act.put, List.setIfInBounds_toArray, List.set_cons_zero, List.set_cons_succ]
  refine AnyK.one (i := 8) (by kernel_rfl) rfl (fun K hK => ?_)
  go_simp
  refine hK.out _ _ (fun _ => ⟨dA1, d1⟩) ?_
  clear hK K
  try simp only [Act.put, List.setIfInBounds_toArray, List.set_cons_zero, List.set_cons_succ]
  refine AnyK.one (i := 9) (by kernel_rfl) rfl (fun K hK => ?_)
  go_simp
  refine hK.out _ _ (fun _ => ⟨by simp [go_sem, dA1, hneA'], by simp [go_sem, d1]⟩) ?_
  clear hK K
  try simp only [Act.put, List.setIfInBounds_toArray, List.set_cons_zero, List.set_cons_succ]
  refine AnyK.done (by kernel_rfl) ?_ _
  go_wp2_with fail
  have hE : ∀ (q : Piece), (l1.set i q ++ ([blkP H 38 #[.pointer (some ⟨tb, 0, none⟩)], blkP (H + 1) 4 #[.bool false]] ++ E (.slice a n c)))[l1.length + 1]? = some (blkP (H + 1) 4 #[.bool false]) := fun q => by
    rw [List.getElem?_append_right (by simp)]; simp
  have hE2 : ∀ (q : Piece), (l1.set i q ++ ([blkP H 38 #[.pointer (some ⟨tb, 0, none⟩)], blkP (H + 1) 4 #[.bool true]] ++ E (.slice a n c)))[l1.length + 1]? = some (blkP (H + 1) 4 #[.bool true]) := fun q => by
    rw [List.getElem?_append_right (by simp)]; simp
  have hEA : ∀ (q : Piece), (l1.set i q ++ ([blkP H 38 #[.pointer (some ⟨tb, 0, none⟩)], blkP (H + 1) 4 #[.bool true]] ++ E (.slice a n c)))[l1.length]? = some (blkP H 38 #[.pointer (some ⟨tb, 0, none⟩)]) := fun q => by
    rw [List.getElem?_append_right (by simp)]; simp
  have G5 := ((GO.out.thSet (T' := { T1 with out := .slice a n c }) 6 (.slice a n c) rfl rfl).thSet (T' := { T1 with out := .slice a n c, done := true }) 5 (.bool true) rfl rfl).shutTh (by simp; omega)
  rw [List.set_append_left _ _ (by simpa using hi1), List.set_set] at G5
  have eL : (l1.set i (thP tb { T1 with out := .slice a n c, done := true }) ++ ([blkP H 38 #[.pointer (some ⟨tb, 0, none⟩)], blkP (H + 1) 4 #[.bool false]] ++ E (.slice a n c))).set (l1.length + 1) (blkP (H + 1) 4 (#[.bool false].setIfInBounds 0 (.bool true))) = l1.set i (thP tb { T1 with out := .slice a n c, done := true }) ++ ([blkP H 38 #[.pointer (some ⟨tb, 0, none⟩)], blkP (H + 1) 4 #[.bool true]] ++ E (.slice a n c)) := by
    rw [List.set_append_right _ _ (by simp)]; simp
  have G6 : Heap w0 (((w'.setCell ⟨tb, 6, none⟩ (.slice a n c)).setCell ⟨tb, 5, none⟩ (.bool true)).setCell ⟨H + 1, 0, none⟩ (.bool true)) (l1.set i (thP tb { T1 with out := .slice a n c, done := true }) ++ ([blkP H 38 #[.pointer (some ⟨tb, 0, none⟩)], blkP (H + 1) 4 #[.bool true]] ++ E (.slice a n c))) := by
    rw [← eL]
    exact G5.setCell (l1.length + 1) (b := H + 1) (t := 4) (c := #[.bool false]) (hE _) 0 (.bool true)
  have kA : (((w'.setCell ⟨tb, 6, none⟩ (.slice a n c)).setCell ⟨tb, 5, none⟩ (.bool true)).setCell ⟨H + 1, 0, none⟩ (.bool true)).cell? ⟨H, 0, none⟩ = some (.pointer (some ⟨tb, 0, none⟩)) := (G6.blk l1.length (hEA _)).cell 0
  obtain ⟨_, _, Go⟩ := G6.openTh (T := { T1 with out := .slice a n c, done := true }) (tb := tb) i (by rw [List.getElem?_append_left (by simpa using hi1)]; exact List.getElem?_set_self hi1)
  have k4 : (((w'.setCell ⟨tb, 6, none⟩ (.slice a n c)).setCell ⟨tb, 5, none⟩ (.bool true)).setCell ⟨H + 1, 0, none⟩ (.bool true)).cell? ⟨tb, 4, none⟩ = some (Value.bool T1.inn) := Go.thBlk.cell 4
  have G7 := (Go.thSet (T' := { T1 with out := .slice a n c, done := true, inn := false }) 4 (.bool false) rfl rfl).shutTh (by simp; omega)
  rw [List.set_append_left _ _ (by simpa using hi1), List.set_set] at G7
  have kB : ((((w'.setCell ⟨tb, 6, none⟩ (.slice a n c)).setCell ⟨tb, 5, none⟩ (.bool true)).setCell ⟨H + 1, 0, none⟩ (.bool true)).setCell ⟨tb, 4, none⟩ (.bool false)).cell? ⟨H + 1, 0, none⟩ = some (Value.bool true) := (G7.blk (l1.length + 1) (hE2 _)).cell 0
  have z4 := Go.thBlk.froz 4
  rw [← List.append_assoc] at G7
  have GF := Heap.mid G7
  refine leaves_cons (f := 93) (args := #[.pointer (some ⟨H, 0, none⟩), .pointer (some ⟨H + 1, 0, none⟩)]) (by simp) (by simp [go_sem]) ?_
  refine (catch_idle kA k4 z4).mono ?_
  rintro e u' w'' ⟨rfl, rfl, rfl⟩
  simp [Leaves, settle, results, Try.results77, go_sem, kB]
  exact ⟨_, _, _, GF⟩
end
end Go.Proofs.Ythkohomogknddaa
namespace Go.Proofs.Ythkohomogknddaa
open Go Go.RowKit
set_option linter.unusedVariables false
set_option linter.unusedSimpArgs false
theorem work_nil (fn : Fn) (first cap : Array Value) (z : World) : (binOp BinOp.eql 106 (.func fn first cap) .nilFunc).run Try.prog z = .ok (.bool false) z := by kernel_rfl
section
variable {w0 w : World} {l : List Piece} {tb : Nat} {T : Th}
set_option maxHeartbeats 4000000 in
theorem Step_wait (h : Heap w0 w l) (i : Nat) (hi : l[i]? = some (thP tb T)) (f : FuncId) (first cap : Array Value) (hwork : T.work = .func (.func f) first cap) (hdone : T.done = false)
    (hent : ∀ (x : Array Value) (z : World), (callFunc f x).run Try.prog z = .ok (.enter f x) z) (l1 : List Piece) (T1 : Th) (hi1 : i < l1.length)
    (hw : ∀ X z, Heap w0 z (l.set i (thP tb { T with at' := 0, spent := false, inn := true }) ++ X) → Calls Try.prog f (first.push (.pointer (some ⟨tb, 0, none⟩)) ++ cap) z fun e w' => e = .panicked [waitE] ∧ Heap w0 w' (l1.set i (thP tb T1) ++ X)) :
    Calls Try.prog 29 #[.pointer (some ⟨tb, 0, none⟩)] w fun e w' => e = .returned (.bool false) ∧ Heap w0 w' (l1.set i (thP tb { T1 with inn := false })) := by
  have hil := (List.getElem?_eq_some_iff.1 hi).1
  obtain ⟨a, c, H0⟩ := h.openTh i hi
  have c0 : w.cell? ⟨tb, 0, none⟩ = some (.func (.func f) first cap) := by rw [← hwork]; exact H0.thBlk.cell 0
  have c2 : w.cell? ⟨tb, 2, none⟩ = some (.int .i64 (T.at' : Nat)) := H0.thBlk.cell 2
  have c3 : w.cell? ⟨tb, 3, none⟩ = some (.bool T.spent) := H0.thBlk.cell 3
  have c5 : w.cell? ⟨tb, 5, none⟩ = some (.bool false) := by rw [← hdone]; exact H0.thBlk.cell 5
  have z2 := H0.thBlk.froz 2
  have z3 := H0.thBlk.froz 3
  have G1 := ((H0.thSet (T' := { T with at' := 0 }) 2 (.int .i64 0) rfl rfl).thSet (T' := { T with at' := 0, spent := false }) 3 (.bool false) rfl rfl).shutTh hil
  have C := Lib.hid (run_wait G1 i (List.getElem?_set_self hil) f first cap hwork hent l1 T1 hi1 (by rw [List.set_set]; exact hw))
  have hnf := fun z => work_nil (.func f) first cap z
  clear h H0 G1 hw hent
  go_enter Try.func29, Try.ntmps29
  go_wp2_with fail
  refine C.out.mono ?_
  rintro e w' ⟨rfl, H⟩
  go_wp2_with fail
  go_ret
  exact ⟨rfl, H⟩
set_option maxHeartbeats 4000000 in
theorem Step_done (h : Heap w0 w l) (i : Nat) (hi : l[i]? = some (thP tb T)) (f : FuncId) (first cap : Array Value) (hwork : T.work = .func (.func f) first cap) (hdone : T.done = false)
    (hent : ∀ (x : Array Value) (z : World), (callFunc f x).run Try.prog z = .ok (.enter f x) z) (l1 : List Piece) (T1 : Th) (hi1 : i < l1.length) (hw1 : T1.work = T.work) (E : Value → List Piece)
    (hw : ∀ X z, Heap w0 z (l.set i (thP tb { T with at' := 0, spent := false, inn := true }) ++ X) → Calls Try.prog f (first.push (.pointer (some ⟨tb, 0, none⟩)) ++ cap) z fun e w' => ∃ a n c, e = .returned (.slice a n c) ∧ Heap w0 w' (l1.set i (thP tb T1) ++ X ++ E (.slice a n c))) :
    Calls Try.prog 29 #[.pointer (some ⟨tb, 0, none⟩)] w fun e w' => ∃ a n c, e = .returned (.bool true) ∧ Heap w0 w' (l1.set i (thP tb { T1 with inn := false, done := true, out := .slice a n c }) ++ E (.slice a n c)) := by
  have hil := (List.getElem?_eq_some_iff.1 hi).1
  obtain ⟨a, c, H0⟩ := h.openTh i hi
  have c0 : w.cell? ⟨tb, 0, none⟩ = some (.func (.func f) first cap) := by rw [← hwork]; exact H0.thBlk.cell 0
  have c2 : w.cell? ⟨tb, 2, none⟩ = some (.int .i64 (T.at' : Nat)) := H0.thBlk.cell 2
  have c3 : w.cell? ⟨tb, 3, none⟩ = some (.bool T.spent) := H0.thBlk.cell 3
  have c5 : w.cell? ⟨tb, 5, none⟩ = some (.bool false) := by rw [← hdone]; exact H0.thBlk.cell 5
  have z2 := H0.thBlk.froz 2
  have z3 := H0.thBlk.froz 3
  have G1 := ((H0.thSet (T' := { T with at' := 0 }) 2 (.int .i64 0) rfl rfl).thSet (T' := { T with at' := 0, spent := false }) 3 (.bool false) rfl rfl).shutTh hil
  have C := Lib.hid (run_done G1 i (List.getElem?_set_self hil) f first cap hwork hent l1 T1 hi1 hw1 E (by rw [List.set_set]; exact hw))
  have hnf := fun z => work_nil (.func f) first cap z
  clear h H0 G1 hw hent
  go_enter Try.func29, Try.ntmps29
  go_wp2_with fail
  refine C.out.mono ?_
  rintro e w' ⟨a, n, c, rfl, H⟩
  go_wp2_with fail
  go_ret
  exact ⟨a, n, c, rfl, H⟩
/-- It is at its end. -/
theorem Step_over (h : Heap w0 w l) (i : Nat) (hi : l[i]? = some (thP tb T)) (hdone : T.done = true) :
    Calls Try.prog 29 #[.pointer (some ⟨tb, 0, none⟩)] w fun e w' => e = .returned (.bool true) ∧ w' = w := by
  obtain ⟨a, c, H0⟩ := h.openTh i hi
  have c5 : w.cell? ⟨tb, 5, none⟩ = some (.bool true) := by rw [← hdone]; exact H0.thBlk.cell 5
  clear h H0
  go_enter Try.func29, Try.ntmps29
  go_wp2_with fail
  go_ret
  exact ⟨rfl, rfl⟩
theorem Done_h (h : Heap w0 w l) (i : Nat) (hi : l[i]? = some (thP tb T)) (f : FuncId) (first cap : Array Value) (hwork : T.work = .func (.func f) first cap) :
    Calls Try.prog 27 #[.pointer (some ⟨tb, 0, none⟩)] w fun e w' => e = .returned (.bool T.done) ∧ w' = w := by
  obtain ⟨a, c, H0⟩ := h.openTh i hi
  have c0 : w.cell? ⟨tb, 0, none⟩ = some (.func (.func f) first cap) := by rw [← hwork]; exact H0.thBlk.cell 0
  have c5 : w.cell? ⟨tb, 5, none⟩ = some (.bool T.done) := H0.thBlk.cell 5
  have hnf := fun z => work_nil (.func f) first cap z
  clear h H0
  generalize T.done = d at *
  cases d
  · go_enter Try.func27, Try.ntmps27
    go_wp2_with fail
    go_ret
    exact ⟨rfl, rfl⟩
  · go_enter Try.func27, Try.ntmps27
    go_wp2_with fail
    go_ret
    exact ⟨rfl, rfl⟩
/-- Not at its end: it came to nothing. -/
theorem Out_none (h : Heap w0 w l) (i : Nat) (hi : l[i]? = some (thP tb T)) (hdone : T.done = false) :
    Calls Try.prog 66 #[.pointer (some ⟨tb, 0, none⟩)] w fun e w' => e = .returned (.slice none 0 0) ∧ w' = w := by
  obtain ⟨a, c, H0⟩ := h.openTh i hi
  have c5 : w.cell? ⟨tb, 5, none⟩ = some (.bool false) := by rw [← hdone]; exact H0.thBlk.cell 5
  clear h H0
  go_enter Try.func66, Try.ntmps66
  go_wp2_with fail
  go_ret
  exact ⟨rfl, rfl⟩
/-- At its end: a copy of what it came to. -/
theorem Out_some (h : Heap w0 w l) (i : Nat) (hi : l[i]? = some (thP tb T)) (hdone : T.done = true) (a1 : Option Addr) (n c1 : Nat) (hout : T.out = .slice a1 n c1) (us : List Int) (R : RdV w (.slice a1 n c1) n 1 (us.map (Value.int .i64))) (hn : n ≤ 1000000) :
    Calls Try.prog 66 #[.pointer (some ⟨tb, 0, none⟩)] w fun e w' => ∃ a2 c2, e = .returned (.slice a2 n c2) ∧ Heap w0 w' (l ++ [rowP 2 1 (.slice a2 n c2) n (us.map (Value.int .i64))]) := by
  obtain ⟨a, c, H0⟩ := h.openTh i hi
  have c5 : w.cell? ⟨tb, 5, none⟩ = some (.bool true) := by rw [← hdone]; exact H0.thBlk.cell 5
  have c6 : w.cell? ⟨tb, 6, none⟩ = some (.slice a1 n c1) := by rw [← hout]; exact H0.thBlk.cell 6
  obtain ⟨i0, hi0, hz0, hz1, hz2⟩ := info_parts info_i64t
  have I0 := Lib.hid (And.intro hi0 (And.intro hz0 (And.intro hz1 hz2)))
  have lt := H0.thBlk.lt
  have hlm : 0 + n ≤ maxLen := by unfold maxLen; omega
  have hlb : (0 + n) * 8 ≤ 140737488355328 := by omega
  have HL := Lib.hid (And.intro hlm hlb)
  have RR := Lib.hid R
  have HH := Lib.hid h
  clear h H0 hi0 hz0 hz1 hz2 hlm hlb R
  go_enter Try.func66, Try.ntmps66
  go_wp2_with (at_builtin; refine wpList_append_typed _ rfl _ _ _ (by rfl) 2 i0 (.int .i64 0) 1 8 Try.underlying35 I0.out.1 I0.out.2.1 I0.out.2.2.1 I0.out.2.2.2 rfl (by decide) (.slice (some ⟨w.heap.size, 0, none⟩) 0 0) 0 [] (by rfl) (QRow.none0 _ _) (.slice a1 n c1) n (us.map (Value.int .i64)) (by rfl) (RR.out.fr (S := nob) ((Fr.refl nob w).alloc _) (fun _ _ _ x => x)) (by intro u hu; obtain ⟨x, _, rfl⟩ := List.mem_map.1 hu; rfl) HL.out.1 HL.out.2 ?_)
  intro a2 c2 w2 q2 grow2 hat2
  have f2 : Fr nob w w2 := Fr.grown (by repeat (first | exact Fr.refl _ _ | apply Fr.drew | apply Fr.alloc)) grow2 (fun k hk => .inr (by simp [Value.ownBlock] at hk; omega))
  have GF := HH.out.pushRow f2 q2 (fun g hg => by
    rcases hat2 g hg with ⟨_, hw, ha, _, _⟩ | ⟨hx, c, hc⟩
    · rw [ha] at hg
      simp [Value.ownBlock] at hg
      subst hg
      rw [hw]
      exact ⟨Nat.le_refl _, by simp, #[], Blk.new _ _ _⟩
    · refine ⟨?_, hc.lt, c, hc⟩
      rcases hx with hx | hx
      · simp [Value.ownBlock] at hx; omega
      · omega)
  go_wp2_with fail
  go_ret
  exact ⟨a2, c2, rfl, GF⟩
end
end Go.Proofs.Ythkohomogknddaa
namespace Go.Proofs.Ythkohomogknddaa
open Go Go.RowKit
set_option linter.unusedVariables false
set_option linter.unusedSimpArgs false
/-- How what is shared and a thread lie in memory. -/
structure Pl (σ : Type) where
  F : σ → Th → List Piece
  ti : Nat
  tb : Nat
  get : ∀ s T, (F s T)[ti]? = some (thP tb T)
  put : ∀ s T T', (F s T).set ti (thP tb T') = F s T'
theorem ask_nil (fn : Fn) (first cap : Array Value) (z : World) : (binOp BinOp.eql 23 (.func fn first cap) .nilFunc).run Try.prog z = .ok (.bool false) z := by kernel_rfl
section
variable {σ : Type}
def Th.st (T : Th) (s : σ) : Tst σ := ⟨T.log, T.at', T.spent, s⟩
def Th.of (T : Th) (x : Tst σ) : Th := { T with log := x.log, at' := x.at', spent := x.spent }
structure Fit (ok : σ → Prop) (x : Tst σ) : Prop where
  le : x.at' ≤ x.log.length
  few : x.log.length ≤ 900001
  new : x.spent = false → x.log.length ≤ 900000 ∧ ok x.sh
theorem Fit.ask {ok : σ → Prop} {x x' : Tst σ} {g : σ → Int × σ} {n : Int} (h : Fit ok x) (e : askT g x = (some n, x')) : Fit ok x' := by
  unfold askT at e
  split at e
  · rename_i hlt
    simp only [Prod.mk.injEq, Option.some.injEq] at e
    obtain ⟨_, rfl⟩ := e
    exact ⟨hlt, h.few, h.new⟩
  · split at e
    · simp at e
    · rename_i h1 h2
      simp only [Prod.mk.injEq, Option.some.injEq] at e
      obtain ⟨_, rfl⟩ := e
      have h3 := (h.new (by simpa using h2)).1
      have h4 := h.le
      exact ⟨by simp; omega, by simp; omega, fun hx => by simp at hx⟩
theorem Pl.set (pl : Pl σ) (s : σ) (T T' : Th) (X : List Piece) : (pl.F s T ++ X).set pl.ti (thP pl.tb T') = pl.F s T' ++ X := by
  have hil := (List.getElem?_eq_some_iff.1 (pl.get s T)).1
  rw [List.set_append_left _ _ hil, pl.put]
theorem Pl.lt (pl : Pl σ) (s : σ) (T : Th) (X : List Piece) : pl.ti < (pl.F s T ++ X).length := by
  have hil := (List.getElem?_eq_some_iff.1 (pl.get s T)).1
  rw [List.length_append]; omega
theorem Pl.at' (pl : Pl σ) (s : σ) (T : Th) (X : List Piece) : (pl.F s T ++ X)[pl.ti]? = some (thP pl.tb T) := get_left (pl.get s T)
/-- What Do comes to, by what the thread was told. -/
def DoPost (pl : Pl σ) (w0 : World) (X : List Piece) (T : Th) (r : Option Int × Tst σ) (e : Ending) (w' : World) : Prop := match r with
  | (some n, x') => e = .returned (.int .i64 n) ∧ Heap w0 w' (pl.F x'.sh (T.of x') ++ X)
  | (none, x') => e = .panicked [waitE] ∧ Heap w0 w' (pl.F x'.sh (T.of x') ++ X)
theorem Do_task {w0 w : World} {pl : Pl σ} {X : List Piece} {s : σ} {T : Th} {ok : σ → Prop} (h : Heap w0 w (pl.F s T ++ X)) (hin : T.inn = true) (hf : Fit ok (T.st s)) (f : FuncId) (first cap : Array Value)
    (hent : ∀ (x : Array Value) (z : World), (callFunc f x).run Try.prog z = .ok (.enter f x) z) (g : σ → Int × σ)
    (ht : ∀ T z, ok s → Heap w0 z (pl.F s T ++ X) → Calls Try.prog f (first ++ cap) z fun e w' => e = .returned (.int .i64 (g s).1) ∧ Heap w0 w' (pl.F (g s).2 T ++ X)) :
    Calls Try.prog 69 #[.pointer (some ⟨pl.tb, 0, none⟩), .func (.func f) first cap] w (DoPost pl w0 X T (askT g (T.st s))) := by
  have hle := hf.le
  have hfew := hf.few
  unfold askT
  by_cases hlt : T.at' < T.log.length
  · rw [if_pos (show (T.st s).at' < (T.st s).log.length from hlt)]
    refine (Do_told h pl.ti (pl.at' s T X) hin f first cap hlt (by change T.log.length ≤ _ at hfew; omega)).mono ?_
    rintro e w' ⟨rfl, H⟩
    rw [pl.set] at H
    exact ⟨rfl, H⟩
  · rw [if_neg (show ¬ (T.st s).at' < (T.st s).log.length from hlt)]
    have hat : T.at' = T.log.length := by change T.at' ≤ T.log.length at hle; omega
    by_cases hsp : T.spent = true
    · rw [if_pos (show (T.st s).spent = true from hsp)]
      refine (Do_wait h pl.ti (pl.at' s T X) hin f first cap hat hsp).mono ?_
      rintro e w' ⟨rfl, H⟩
      exact ⟨rfl, H⟩
    · rw [if_neg (show ¬ (T.st s).spent = true from hsp)]
      have hsp' : T.spent = false := by simpa using hsp
      obtain ⟨h1, h2⟩ := hf.new hsp'
      refine (Do_new h pl.ti (pl.at' s T X) hin f first cap hat hsp' (by change T.log.length ≤ _ at h1; omega) hent (g s).1 (pl.F (g s).2 T ++ X) (pl.lt _ _ _) (fun z hz => ?_)).mono ?_
      · rw [pl.set] at hz ⊢
        exact ht _ z h2 hz
      · rintro e w' ⟨rfl, H⟩
        rw [pl.set] at H
        exact ⟨rfl, H⟩
/-- What work comes to, in one Step. -/
def WorkPost (pl : Pl σ) (w0 : World) (X : List Piece) (T : Th) (r : Res (List Int) × Tst σ) (e : Ending) (w' : World) : Prop := match r with
  | (.done v, x') => ∃ a c, e = .returned (.slice a v.length c) ∧ Heap w0 w' (pl.F x'.sh (T.of x') ++ X ++ [rowP 2 1 (.slice a v.length c) v.length (intC v)])
  | (.wait, x') => e = .panicked [waitE] ∧ Heap w0 w' (pl.F x'.sh (T.of x') ++ X)
  | (.stuck, _) => True
/-- What a Step comes to. -/
def StepPost (pl : Pl σ) (w0 : World) (Y : List Piece) (T : Th) (r : Res (List Int) × Tst σ) (e : Ending) (w' : World) : Prop := match r with
  | (.done v, x') => ∃ a c, e = .returned (.bool true) ∧ Heap w0 w' (pl.F x'.sh { T.of x' with inn := false, done := true, out := .slice a v.length c } ++ Y ++ [rowP 2 1 (.slice a v.length c) v.length (intC v)])
  | (.wait, x') => e = .returned (.bool false) ∧ Heap w0 w' (pl.F x'.sh { T.of x' with inn := false } ++ Y)
  | (.stuck, _) => True
theorem Step_task {w0 w : World} {pl : Pl σ} {Y : List Piece} {s : σ} {T : Th} (h : Heap w0 w (pl.F s T ++ Y)) (f : FuncId) (first cap : Array Value) (hwork : T.work = .func (.func f) first cap) (hdone : T.done = false)
    (hent : ∀ (x : Array Value) (z : World), (callFunc f x).run Try.prog z = .ok (.enter f x) z) (p : Prog σ (List Int)) (ht : p.told T.log) (hns : (stepR (p.rest T.log) T.log s).1 ≠ .stuck)
    (hw : ∀ X z, Heap w0 z (pl.F s { T with at' := 0, spent := false, inn := true } ++ X) → Calls Try.prog f (first.push (.pointer (some ⟨pl.tb, 0, none⟩)) ++ cap) z (WorkPost pl w0 X { T with at' := 0, spent := false, inn := true } (p.run ⟨T.log, 0, false, s⟩))) :
    Calls Try.prog 29 #[.pointer (some ⟨pl.tb, 0, none⟩)] w (StepPost pl w0 Y T (stepR (p.rest T.log) T.log s)) := by
  have e := run_step p T.log s ht
  rw [e] at hw
  generalize hr : stepR (p.rest T.log) T.log s = r at *
  obtain ⟨r, x'⟩ := r
  have hn : (pl.F s T ++ Y)[pl.ti]? = some (thP pl.tb T) := pl.at' s T Y
  cases r with
  | stuck => exact absurd rfl hns
  | wait =>
    refine (Step_wait h pl.ti hn f first cap hwork hdone hent (pl.F x'.sh T ++ Y) { T.of x' with inn := true } (pl.lt _ _ _) (fun X z hz => ?_)).mono ?_
    · rw [pl.set, List.append_assoc] at hz
      refine (hw _ z hz).mono ?_
      rintro e w' ⟨rfl, H⟩
      refine ⟨rfl, ?_⟩
      rw [pl.set, List.append_assoc]
      exact H
    · rintro e w' ⟨rfl, H⟩
      rw [pl.set] at H
      exact ⟨rfl, H⟩
  | done v =>
    refine (Step_done h pl.ti hn f first cap hwork hdone hent (pl.F x'.sh T ++ Y) { T.of x' with inn := true } (pl.lt _ _ _) rfl (fun val => match val with | .slice a n c => [rowP 2 1 (.slice a n c) v.length (intC v)] | _ => []) (fun X z hz => ?_)).mono ?_
    · rw [pl.set, List.append_assoc] at hz
      refine (hw _ z hz).mono ?_
      rintro e w' ⟨a, c, rfl, H⟩
      refine ⟨a, v.length, c, rfl, ?_⟩
      rw [pl.set, List.append_assoc, List.append_assoc]
      rw [List.append_assoc, List.append_assoc] at H
      exact H
    · rintro e w' ⟨a, n, c, rfl, H⟩
      rw [pl.set] at H
      have hnn : n = v.length := by
        obtain ⟨_, _, hv, _⟩ := (H.row (t := 2) (sz := 1) (n := v.length) (v := .slice a n c) (us := intC v) ((pl.F x'.sh { T.of x' with inn := false, done := true, out := .slice a n c } ++ Y).length) (by simp)).form
        simp at hv
        exact hv.2.1
      subst hnn
      exact ⟨a, c, rfl, H⟩
end
end Go.Proofs.Ythkohomogknddaa
namespace Go.Proofs.Ythkohomogknddaa
open Go Go.RowKit
set_option maxRecDepth 100000
set_option linter.unusedVariables false
set_option linter.unusedSimpArgs false
theorem nilask_nil (z : World) : (binOp BinOp.eql 23 .nilFunc .nilFunc).run Try.prog z = .ok (.bool true) z := by kernel_rfl
theorem niltouch_nil (z : World) : (binOp BinOp.eql 43 .nilFunc .nilFunc).run Try.prog z = .ok (.bool true) z := by kernel_rfl
theorem Ask_none (p : Value) (w : World) : Calls Try.prog 72 #[p, .nilFunc] w fun e w' => e = .returned (.bool false) ∧ Fr nob w w' := by
  have hnf := nilask_nil
  go_enter Try.func72, Try.ntmps72
  go_wp2_with fail
  go_ret
  exact ⟨rfl, (Fr.refl nob w).alloc _⟩
theorem Do_none (tb : Nat) (w : World) : Calls Try.prog 69 #[.pointer (some ⟨tb, 0, none⟩), .nilFunc] w fun e w' => e = .returned (.int .i64 0) ∧ w' = w := by
  have hnf := niltouch_nil
  go_enter Try.func69, Try.ntmps69
  go_wp2_with fail
  go_ret
  exact ⟨rfl, rfl⟩
theorem askIn_enters (x : Array Value) (z : World) : (callFunc 92 x).run Try.prog z = .ok (.enter 92 x) z := rfl
theorem askIn_calls {w : World} {K : Nat} {f : FuncId} {first cap : Array Value} {b : Bool} {P : World → Prop} (hk : w.cell? ⟨K, 0, none⟩ = some (.func (.func f) first cap))
    (hent : ∀ (x : Array Value) (z : World), (callFunc f x).run Try.prog z = .ok (.enter f x) z) (C : Calls Try.prog f (first ++ cap) w fun e w' => e = .returned (.bool b) ∧ P w') :
    Calls Try.prog 92 #[.pointer (some ⟨K, 0, none⟩)] w fun e w' => e = .returned (.int .i64 (if b = true then 1 else 0)) ∧ P w' := by
  have CC := Lib.hid C
  clear C
  go_enter Try.func92, Try.ntmps92
  go_wp2_with fail
  refine CC.out.mono ?_
  rintro e w' ⟨rfl, H⟩
  cases b
  · go_wp2_with fail
    go_ret
    exact ⟨rfl, H⟩
  · go_wp2_with fail
    go_ret
    exact ⟨rfl, H⟩
section
variable {σ : Type}
def AskPost (pl : Pl σ) (w0 : World) (X : List Piece) (T : Th) (r : Option Int × Tst σ) (e : Ending) (w' : World) : Prop := match r with
  | (some n, x') => e = .returned (.bool (n == 1)) ∧ Heap w0 w' (pl.F x'.sh (T.of x') ++ X)
  | (none, x') => e = .panicked [waitE] ∧ Heap w0 w' (pl.F x'.sh (T.of x') ++ X)
theorem Ask_task {w0 w : World} {pl : Pl σ} {X : List Piece} {s s' : σ} {T : Th} {ok : σ → Prop} (h : Heap w0 w (pl.F s T ++ X)) (hin : T.inn = true) (hf : Fit ok (T.st s)) (f : FuncId) (first cap : Array Value)
    (hent : ∀ (x : Array Value) (z : World), (callFunc f x).run Try.prog z = .ok (.enter f x) z) (b : Bool) (g : σ → Int × σ) (hg : g s = (if b = true then 1 else 0, s'))
    (ht : ∀ (Y : List Piece) T z, ok s → Heap w0 z (pl.F s T ++ (X ++ Y)) → Calls Try.prog f (first ++ cap) z fun e w' => e = .returned (.bool b) ∧ Heap w0 w' (pl.F s' T ++ (X ++ Y))) :
    Calls Try.prog 72 #[.pointer (some ⟨pl.tb, 0, none⟩), .func (.func f) first cap] w (AskPost pl w0 X T (askT g (T.st s))) := by
  have hmf : ∀ (fn : Fn) (first cap : Array Value) (z : World), (Instr.makeFunc fn first cap).run Try.prog z = .ok (.func fn first cap) z := fun _ _ _ _ => rfl
  have hnf := fun z => ask_nil (.func f) first cap z
  have H1 := h.alloc 23 #[.func (.func f) first cap]
  rw [List.append_assoc] at H1
  have C := Do_task (X := X ++ [blkP w.heap.size 23 #[.func (.func f) first cap]]) H1 hin hf 92 #[] #[.pointer (some ⟨w.heap.size, 0, none⟩)] askIn_enters g (fun T2 z hok hz => by
    have hk : z.cell? ⟨w.heap.size, 0, none⟩ = some (.func (.func f) first cap) := (hz.blk ((pl.F s T2).length + X.length) (b := w.heap.size) (t := 23) (c := #[.func (.func f) first cap]) (by rw [List.getElem?_append_right (by omega), Nat.add_sub_cancel_left, List.getElem?_append_right (by omega)]; simp)).cell 0
    have C1 := askIn_calls hk hent (ht [blkP w.heap.size 23 #[.func (.func f) first cap]] T2 z hok hz)
    rw [hg]
    simpa using C1)
  generalize hr : askT g (T.st s) = r at *
  obtain ⟨r, x'⟩ := r
  clear h H1 hr ht
  cases r with
  | none =>
    have CC := Lib.hid C
    clear C
    go_enter Try.func72, Try.ntmps72
    go_wp2_with fail
    refine CC.out.mono ?_
    rintro e w' ⟨rfl, H⟩
    change bodyPost Try.prog Try.f72 _ (Exit.panic [waitE]) _ _
    rw [← List.append_assoc] at H
    exact ⟨rfl, rfl, H.first⟩
  | some n =>
    have CC := Lib.hid C
    clear C
    go_enter Try.func72, Try.ntmps72
    go_wp2_with fail
    refine CC.out.mono ?_
    rintro e w' ⟨rfl, H⟩
    rw [← List.append_assoc] at H
    have HH := Lib.hid H.first
    clear H
    go_wp2_with fail
    go_ret
    exact ⟨rfl, HH.out⟩
end
end Go.Proofs.Ythkohomogknddaa
