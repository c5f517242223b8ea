/- A thread: Do, told again or waiting; New. No condition but the bounds of size. -/
import Derived.Test.YtblijgdmfohfcaaRows
import Derived.Test.YtblijgdmfohfcaaThA
import Derived.Test.YtblijgdmfohfcaaOpen
import Derived.Test.YtblijgdmfohfcaaOrd
import Derived.Deep.RegionWith
import Derived.Deep.DeepCutAuto
namespace Go.Proofs.Ytblijgdmfohfcaa
open Go Go.RowKit
set_option linter.unusedVariables false
set_option linter.unusedSimpArgs false
def newTh (work : Value) : Th := ⟨work, [], 0, false, false, false, .slice none 0 0⟩
/-- What a thread panics with when its touch is done. -/
def waitE : PanicEntry := { v := .iface 60 (.agg #[]), recovered := false }
theorem info_i64t : (Try.prog.info? 2).map (fun i => (i.zero, i.size, i.bytes)) = some (some (.int .i64 0), 1, 8) := by kernel_rfl
theorem func_nil (fn : Fn) (first cap : Array Value) (z : World) : (binOp BinOp.eql 48 (.func fn first cap) .nilFunc).run Try.prog z = .ok (.bool false) z := by kernel_rfl
section
variable {w0 w : World} {l : List Piece} {tb : Nat} {T : Th}
theorem New_h (h : Heap w0 w l) (f : FuncId) (first cap : Array Value) : Calls Try.prog 18 #[.func (.func f) first cap] w fun e w' => e = .returned (.pointer (some ⟨w.heap.size, 0, none⟩)) ∧ Heap w0 w' (l ++ [thP w.heap.size (newTh (.func (.func f) first cap))]) := by
  have key : Heap w0 (w.alloc (.cells ((newTh (.func (.func f) first cap)).cells (.slice none 0 0)) 58)) (l ++ [thP w.heap.size (newTh (.func (.func f) first cap))]) := by
    have h1 := h.alloc 58 ((newTh (.func (.func f) first cap)).cells (.slice none 0 0))
    have h2 := h1.push (Fr.refl _ _) (p := rowP 2 1 (.slice none 0 0) 0 []) (S := fun _ => False) ⟨QRow.nil _ _ _, fun g hg => by simp [Value.ownBlock] at hg⟩ (fun _ x => x.elim)
    have h3 : Heap w0 (w.alloc (.cells ((newTh (.func (.func f) first cap)).cells (.slice none 0 0)) 58)) ((l ++ [nilP]).set l.length nilP ++ thL w.heap.size (.slice none 0 0) (newTh (.func (.func f) first cap))) := by
      rw [List.set_append_right _ _ (Nat.le_refl _), Nat.sub_self, List.set_cons_zero, List.append_assoc]
      refine (h2.push (Fr.refl _ _) (p := nilP) (S := fun _ => False) trivial (fun _ x => x.elim)).idx (fun j => if j < l.length then j else if j = l.length then l.length + 2 else j - 1) (fun j hj => ?_) (fun a b ha hb e => ?_)
      · simp [thL] at hj
        by_cases h1 : j < l.length
        · simp only [h1, if_true]
          rw [List.getElem?_append_left h1, List.append_assoc, List.append_assoc, List.getElem?_append_left h1]
        · rcases (by omega : j = l.length ∨ j = l.length + 1 ∨ j = l.length + 2) with rfl | rfl | rfl <;> simp [thL, newTh, show ¬ (l.length + 1 < l.length) from by omega, show ¬ (l.length + 2 < l.length) from by omega]
      · simp [thL] at ha hb
        try simp only at e
        split at e <;> split at e <;> (try split at e) <;> (try split at e) <;> omega
    have h4 := h3.shutTh (by simp)
    rwa [List.set_append_right _ _ (Nat.le_refl _), Nat.sub_self, List.set_cons_zero] at h4
  have K := Lib.hid key
  clear key h
  go_enter Try.func18, Try.ntmps18
  go_wp2
  go_ret
  exact ⟨rfl, K.out⟩
/-- It was told that already. -/
theorem Do_told (h : Heap w0 w l) (i : Nat) (hi : l[i]? = some (thP tb T)) (hin : T.inn = true) (f : FuncId) (first cap : Array Value) (hat : T.at' < T.log.length) (hlm : T.log.length ≤ 1000000) :
    Calls Try.prog 20 #[.pointer (some ⟨tb, 0, none⟩), .func (.func f) first cap] w fun e w' => e = .returned (.int .i64 (T.log.getD T.at' 0)) ∧ Heap w0 w' (l.set i (thP tb { T with at' := T.at' + 1 })) := by
  have hil := (List.getElem?_eq_some_iff.1 hi).1
  obtain ⟨a, c, H⟩ := h.openTh i hi
  have B := H.thBlk
  have c1 : w.cell? ⟨tb, 1, none⟩ = some (.slice a T.log.length c) := B.cell 1
  have c2 : w.cell? ⟨tb, 2, none⟩ = some (.int .i64 (T.at' : Nat)) := B.cell 2
  have c4 : w.cell? ⟨tb, 4, none⟩ = some (.bool true) := by rw [← hin]; exact B.cell 4
  have z2 := B.froz 2
  obtain ⟨g, off, cur, rfl, hb, hcap, hrow⟩ := H.thRow.at (by omega)
  have r1 : w.cell? ⟨g, off + T.at', none⟩ = some (.int .i64 (T.log.getD T.at' 0)) := hrow _ _ (by rw [List.getElem?_map, List.getElem?_eq_getElem hat]; simp [List.getD, List.getElem?_eq_getElem hat])
  have hgt : ¬ tb = g := fun e => hb.ne B (by decide) e.symm
  generalize T.log.getD T.at' 0 = n at *
  have HH := Lib.hid H
  clear H B hrow hb h
  have hnf := fun z => func_nil (.func f) first cap z
  go_enter Try.func20, Try.ntmps20
  go_wp2_with fail
  go_quiet (fail)
  go_wp2_with fail
  go_quiet (fail)
  go_wp2_with fail
  go_ret
  exact ⟨rfl, (((HH.out.drewN _).thSet (T' := { T with at' := T.at' + 1 }) 2 (.int .i64 ((T.at' : Int) + 1)) rfl rfl).shutTh hil).drewN _⟩
/-- Its touch is done: it waits. -/
theorem Do_wait (h : Heap w0 w l) (i : Nat) (hi : l[i]? = some (thP tb T)) (hin : T.inn = true) (f : FuncId) (first cap : Array Value) (hat : T.at' = T.log.length) (hsp : T.spent = true) :
    Calls Try.prog 20 #[.pointer (some ⟨tb, 0, none⟩), .func (.func f) first cap] w fun e w' => e = .panicked [waitE] ∧ Heap w0 w' l := by
  obtain ⟨a, c, H⟩ := h.openTh i hi
  have B := H.thBlk
  have c1 : w.cell? ⟨tb, 1, none⟩ = some (.slice a T.log.length c) := B.cell 1
  have c2 : w.cell? ⟨tb, 2, none⟩ = some (.int .i64 (T.log.length : Nat)) := by rw [← hat]; exact B.cell 2
  have c3 : w.cell? ⟨tb, 3, none⟩ = some (.bool true) := by rw [← hsp]; exact B.cell 3
  have c4 : w.cell? ⟨tb, 4, none⟩ = some (.bool true) := by rw [← hin]; exact B.cell 4
  have GG := Lib.hid h
  clear H B h
  have hnf := fun z => func_nil (.func f) first cap z
  go_enter Try.func20, Try.ntmps20
  go_wp2_with fail
  go_quiet (fail)
  go_wp2_with fail
  exact ⟨rfl, rfl, GG.out.drewN _⟩
/-- Its touch is done now. -/
theorem Do_new (h : Heap w0 w l) (i : Nat) (hi : l[i]? = some (thP tb T)) (hin : T.inn = true) (f : FuncId) (first cap : Array Value) (hat : T.at' = T.log.length) (hsp : T.spent = false) (hlm : T.log.length ≤ 1000000)
    (hent : ∀ (x : Array Value) (z : World), (callFunc f x).run Try.prog z = .ok (.enter f x) z) (n : Int) (l' : List Piece) (hi' : i < l'.length)
    (ht : ∀ z, Heap w0 z (l.set i (thP tb { T with spent := true, inn := false })) → Calls Try.prog f (first ++ cap) z fun e w' => e = .returned (.int .i64 n) ∧ Heap w0 w' (l'.set i (thP tb { T with spent := true, inn := false }))) :
    Calls Try.prog 20 #[.pointer (some ⟨tb, 0, none⟩), .func (.func f) first cap] w fun e w' => e = .returned (.int .i64 n) ∧ Heap w0 w' (l'.set i (thP tb { T with log := T.log ++ [n], at' := T.at' + 1, spent := true })) := by
  have hil := (List.getElem?_eq_some_iff.1 hi).1
  obtain ⟨a, c, H⟩ := h.openTh i hi
  have B := H.thBlk
  have c1 : w.cell? ⟨tb, 1, none⟩ = some (.slice a T.log.length c) := B.cell 1
  have c2 : w.cell? ⟨tb, 2, none⟩ = some (.int .i64 (T.log.length : Nat)) := by rw [← hat]; exact B.cell 2
  have c3 : w.cell? ⟨tb, 3, none⟩ = some (.bool false) := by rw [← hsp]; exact B.cell 3
  have c4 : w.cell? ⟨tb, 4, none⟩ = some (.bool true) := by rw [← hin]; exact B.cell 4
  have z3 := B.froz 3
  have z4 := B.froz 4
  have HH := Lib.hid H
  have HT := Lib.hid ht
  obtain ⟨i0, hi0, hz0, hz1, hz2⟩ := info_parts info_i64t
  have I0 := Lib.hid (And.intro hi0 (And.intro hz0 (And.intro hz1 hz2)))
  clear H B h ht hi0 hz0 hz1 hz2
  have hnf := fun z => func_nil (.func f) first cap z
  go_enter Try.func20, Try.ntmps20
  go_wp2_with fail
  go_quiet (fail)
  go_wp2_with fail
  have G := (((HH.out.drewN nq).thSet (T' := { T with spent := true }) 3 (.bool true) rfl rfl).thSet (T' := { T with spent := true, inn := false }) 4 (.bool false) rfl rfl).shutTh hil
  refine (HT.out _ G).mono ?_
  rintro e w3 ⟨rfl, H3⟩
  clear G HT HH c1 c2 c3 c4 z3 z4 hent hnf
  obtain ⟨a3, d3, H4⟩ := H3.openTh i (List.getElem?_set_self hi')
  rw [List.set_set] at H4
  have c4 : w3.cell? ⟨tb, 4, none⟩ = some (.bool false) := H4.thBlk.cell 4
  have z4 := H4.thBlk.froz 4
  have H5 := H4.thSet (T' := { T with spent := true, inn := T.inn }) 4 (.bool true) (by rw [hin]; rfl) rfl
  go_upto_region 11 with fail
  generalize w3.setCell ⟨tb, 4, none⟩ (.bool true) = w4 at *
  clear c4 z4 H3 H4
  have B := H5.thBlk
  have c1 : w4.cell? ⟨tb, 1, none⟩ = some (.slice a3 T.log.length d3) := B.cell 1
  have c2 : w4.cell? ⟨tb, 2, none⟩ = some (.int .i64 (T.log.length : Nat)) := by rw [← hat]; exact B.cell 2
  have z1 := B.froz 1
  have z2 := B.froz 2
  have HH := Lib.hid H5
  have hlm' : T.log.length + 1 ≤ maxLen := by unfold maxLen; omega
  have hlb : (T.log.length + 1) * 8 ≤ 140737488355328 := by omega
  have HL := Lib.hid (And.intro hlm' hlb)
  have QQ := Lib.hid H5.thRow
  have lt := B.lt
  clear H5 hlm' hlb
  have HB := Lib.hid B
  clear B
  go_wp2_with (at_builtin; refine wpList_append_typed _ rfl _ _ _ (by rfl) 2 i0 (.int .i64 0) 1 8 Try.underlying26 I0.out.1 I0.out.2.1 I0.out.2.2.1 I0.out.2.2.2 rfl (by decide) (.slice a3 T.log.length d3) T.log.length (T.log.map (Value.int .i64)) (by rfl) (QQ.out.fr (F := nob) (by repeat (first | exact Fr.refl _ _ | apply Fr.drew | apply Fr.alloc)) (fun _ _ _ x => x)) _ 1 [.int .i64 n] (by rfl) (RdV.block (cs := #[.int .i64 n]) (t := 2) (by repeat (first | exact Blk.new' rfl _ _ | apply Blk.drew | apply Blk.alloc)) rfl (by decide)) (by simp [Value.oneCell']) HL.out.1 HL.out.2 ?_)
  intro a' c' w' q' grow hat'
  have hnt : (Value.slice a3 T.log.length d3).ownBlock ≠ some tb := fun e => by
    obtain ⟨S, hS, _⟩ := HH.out.get (l'.length + 1) thAt1
    obtain ⟨c, hc⟩ := (hS.2 tb e).2
    exact hc.ne HB.out (by decide) rfl
  have F4 : Fr (fun k => (Value.slice a3 T.log.length d3).ownBlock = some k) w4 w' := Fr.grown (by repeat (first | exact Fr.refl _ _ | apply Fr.drew | apply Fr.alloc)) grow (fun k hk => .inl hk)
  have c1' := F4.cell' c1 hnt
  have c2' := F4.cell' c2 hnt
  have z1' := F4.froz' c1 z1 hnt
  have z2' := F4.froz' c2 z2 hnt
  have G := HH.out.growRow (l'.length + 1) thAt1 (Fr.alloc (Fr.refl nob w4) (.cells #[.int .i64 n] 2)) q' grow (fun g hg => (hat' g hg).imp_left (fun h => h.imp_right (fun h => by simpa using h)))
  have G2 := G.thMore (T' := { T with log := T.log ++ [n], at' := T.at' + 1, spent := true }) (.int .i64 ((T.log.length : Int) + 1)) (by rw [← hat]; rfl) (by simp) (by simp)
  have GG := Lib.hid (G2.shutTh hi')
  clear G G2 q' grow hat' F4 hnt
  go_wp2_with fail
  go_ret
  exact ⟨rfl, GG.out⟩
end
end Go.Proofs.Ytblijgdmfohfcaa
