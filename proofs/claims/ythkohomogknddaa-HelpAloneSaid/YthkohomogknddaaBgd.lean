/- Operations that begin, or begin and end; the world's fixed fact. No condition. -/
import Derived.Test.YthkohomogknddaaNew
namespace Go.Proofs.Ythkohomogknddaa
open Go Go.RowKit
set_option linter.unusedVariables false
set_option linter.unusedSimpArgs false
set_option maxRecDepth 100000
/-- It comes to nothing. -/
def nilTo (r : Res Unit) : Res (List Int) := match r with | .done _ => .done [] | .wait => .wait | .stuck => .stuck
/-- So many threads; what it was told is in range. -/
def HB (n : Nat) (x : Tst Wd) : Prop := x.sh.ep.said.length = n ∧ (x.spent = false → ∀ n ∈ x.log, inR n)
def begsP (me : Int) (n : Nat) : Wk (List Int) := (beginP me n 1000).bind fun _ => .ret []
def begEndP (me : Int) (n : Nat) : Wk (List Int) := (beginP me n 1000).bind fun _ => .ask (aSay me (-1)) fun _ => .ret []
section
variable {w0 w : World} {pl : Pl Wd} {c : Wc} {me : Int} {N n : Nat}
theorem awk_enters (x : Array Value) (z : World) : (callFunc 64 x).run Try.prog z = .ok (.enter 64 x) z := rfl
theorem awk_does (wp : WdPl pl c) (hN : N ≤ 50000) : Does pl c me 64 #[] #[] (begsP me n) N (HB n) w0 := by
  intro w X T x h hin hf hH hns
  have h1 := h.alloc 41 #[.pointer (some ⟨pl.tb, 0, none⟩), .pointer (some ⟨c.wb, 0, none⟩), .int .i64 me]
  rw [List.append_assoc] at h1
  generalize hHs : w.heap.size = b0 at *
  obtain ⟨k0, k1, k2⟩ := tk_cells (tk := b0) (me := me) (tb := pl.tb) (wb := c.wb) h1 X.length (by simp [tkP])
  have C := Begin_task (me := me) wp h1 hin hf hN 1000 n hH.1 hH.2 (Wk.bind_ns (q := fun _ => (.ret [] : Wk (List Int))) hns)
  unfold tkV at C
  rcases hr : (beginP me n 1000).run x with ⟨r, x1⟩
  rw [hr] at C
  clear h h1
  cases r with
  | stuck => exact absurd (by rw [hr]) (Wk.bind_ns (q := fun _ => (.ret [] : Wk (List Int))) hns)
  | wait =>
    have HR : Hid ((begsP me n).run x = (.wait, x1)) := Lib.hid (Wk.bind_wait hr)
    have CC := Lib.hid C
    clear C hns hr hf hH
    unfold tkV
    go_enter Try.func64, Try.ntmps64
    go_wp2_with fail
    refine CC.out.mono ?_
    rintro e w' ⟨rfl, H⟩
    change bodyPost Try.prog Try.f64 _ (Exit.panic [waitE]) _ _
    rw [HR.out]
    exact ⟨rfl, rfl, H.dropX⟩
  | done u =>
    have hR : (begsP me n).run x = (.ret [] : Wk (List Int)).run x1 := Wk.bind_done hr
    have HR := Lib.hid hR
    have CC := Lib.hid C
    clear C hns hr hf hH hR
    unfold tkV
    go_enter Try.func64, Try.ntmps64
    go_wp2_with fail
    refine CC.out.mono ?_
    rintro e w' ⟨val, Y, rfl, ⟨rfl, rfl⟩, hf1, H⟩
    rw [List.append_nil] at H
    clear CC k0 k1 k2
    have HH := Lib.hid H.dropX
    have HF := Lib.hid hf1
    clear H hf1
    go_wp2_with fail
    go_ret
    rw [HR.out]
    exact ⟨_, [rowP 2 1 (.slice none 0 0) 0 []], rfl, ⟨none, 0, rfl, rfl⟩, HF.out, HH.out.rowNil _ _⟩
theorem wbg_enters (x : Array Value) (z : World) : (callFunc 21 x).run Try.prog z = .ok (.enter 21 x) z := rfl
theorem wbg_does (wp : WdPl pl c) (hN : N ≤ 50000) : Does pl c me 21 #[] #[] (begsP me n) N (HB n) w0 := by
  intro w X T x h hin hf hH hns
  have h1 := h.alloc 41 #[.pointer (some ⟨pl.tb, 0, none⟩), .pointer (some ⟨c.wb, 0, none⟩), .int .i64 me]
  rw [List.append_assoc] at h1
  generalize hHs : w.heap.size = b0 at *
  obtain ⟨k0, k1, k2⟩ := tk_cells (tk := b0) (me := me) (tb := pl.tb) (wb := c.wb) h1 X.length (by simp [tkP])
  have C := Begin_task (me := me) wp h1 hin hf hN 1000 n hH.1 hH.2 (Wk.bind_ns (q := fun _ => (.ret [] : Wk (List Int))) hns)
  unfold tkV at C
  rcases hr : (beginP me n 1000).run x with ⟨r, x1⟩
  rw [hr] at C
  clear h h1
  cases r with
  | stuck => exact absurd (by rw [hr]) (Wk.bind_ns (q := fun _ => (.ret [] : Wk (List Int))) hns)
  | wait =>
    have HR : Hid ((begsP me n).run x = (.wait, x1)) := Lib.hid (Wk.bind_wait hr)
    have CC := Lib.hid C
    clear C hns hr hf hH
    unfold tkV
    go_enter Try.func21, Try.ntmps21
    go_wp2_with fail
    refine CC.out.mono ?_
    rintro e w' ⟨rfl, H⟩
    change bodyPost Try.prog Try.f21 _ (Exit.panic [waitE]) _ _
    rw [HR.out]
    exact ⟨rfl, rfl, H.dropX⟩
  | done u =>
    have hR : (begsP me n).run x = (.ret [] : Wk (List Int)).run x1 := Wk.bind_done hr
    have HR := Lib.hid hR
    have CC := Lib.hid C
    clear C hns hr hf hH hR
    unfold tkV
    go_enter Try.func21, Try.ntmps21
    go_wp2_with fail
    refine CC.out.mono ?_
    rintro e w' ⟨val, Y, rfl, ⟨rfl, rfl⟩, hf1, H⟩
    rw [List.append_nil] at H
    clear CC k0 k1 k2
    have HH := Lib.hid H.dropX
    have HF := Lib.hid hf1
    clear H hf1
    go_wp2_with fail
    go_ret
    rw [HR.out]
    exact ⟨_, [rowP 2 1 (.slice none 0 0) 0 []], rfl, ⟨none, 0, rfl, rfl⟩, HF.out, HH.out.rowNil _ _⟩
theorem wfr_enters (x : Array Value) (z : World) : (callFunc 32 x).run Try.prog z = .ok (.enter 32 x) z := rfl
theorem wfr_does (wp : WdPl pl c) (hN : N ≤ 50000) : Does pl c me 32 #[] #[] (begsP me n) N (HB n) w0 := by
  intro w X T x h hin hf hH hns
  have h1 := h.alloc 41 #[.pointer (some ⟨pl.tb, 0, none⟩), .pointer (some ⟨c.wb, 0, none⟩), .int .i64 me]
  rw [List.append_assoc] at h1
  generalize hHs : w.heap.size = b0 at *
  obtain ⟨k0, k1, k2⟩ := tk_cells (tk := b0) (me := me) (tb := pl.tb) (wb := c.wb) h1 X.length (by simp [tkP])
  have C := Begin_task (me := me) wp h1 hin hf hN 1000 n hH.1 hH.2 (Wk.bind_ns (q := fun _ => (.ret [] : Wk (List Int))) hns)
  unfold tkV at C
  rcases hr : (beginP me n 1000).run x with ⟨r, x1⟩
  rw [hr] at C
  clear h h1
  cases r with
  | stuck => exact absurd (by rw [hr]) (Wk.bind_ns (q := fun _ => (.ret [] : Wk (List Int))) hns)
  | wait =>
    have HR : Hid ((begsP me n).run x = (.wait, x1)) := Lib.hid (Wk.bind_wait hr)
    have CC := Lib.hid C
    clear C hns hr hf hH
    unfold tkV
    go_enter Try.func32, Try.ntmps32
    go_wp2_with fail
    refine CC.out.mono ?_
    rintro e w' ⟨rfl, H⟩
    change bodyPost Try.prog Try.f32 _ (Exit.panic [waitE]) _ _
    rw [HR.out]
    exact ⟨rfl, rfl, H.dropX⟩
  | done u =>
    have hR : (begsP me n).run x = (.ret [] : Wk (List Int)).run x1 := Wk.bind_done hr
    have HR := Lib.hid hR
    have CC := Lib.hid C
    clear C hns hr hf hH hR
    unfold tkV
    go_enter Try.func32, Try.ntmps32
    go_wp2_with fail
    refine CC.out.mono ?_
    rintro e w' ⟨val, Y, rfl, ⟨rfl, rfl⟩, hf1, H⟩
    rw [List.append_nil] at H
    clear CC k0 k1 k2
    have HH := Lib.hid H.dropX
    have HF := Lib.hid hf1
    clear H hf1
    go_wp2_with fail
    go_ret
    rw [HR.out]
    exact ⟨_, [rowP 2 1 (.slice none 0 0) 0 []], rfl, ⟨none, 0, rfl, rfl⟩, HF.out, HH.out.rowNil _ _⟩
theorem wen_enters (x : Array Value) (z : World) : (callFunc 25 x).run Try.prog z = .ok (.enter 25 x) z := rfl
theorem wen_does (wp : WdPl pl c) (hN : N ≤ 50000) : Does pl c me 25 #[] #[] (begEndP me n) N (HB n) w0 := by
  intro w X T x h hin hf hH hns
  have h1 := h.alloc 41 #[.pointer (some ⟨pl.tb, 0, none⟩), .pointer (some ⟨c.wb, 0, none⟩), .int .i64 me]
  rw [List.append_assoc] at h1
  generalize hHs : w.heap.size = b0 at *
  obtain ⟨k0, k1, k2⟩ := tk_cells (tk := b0) (me := me) (tb := pl.tb) (wb := c.wb) h1 X.length (by simp [tkP])
  have C := Begin_task (me := me) wp h1 hin hf hN 1000 n hH.1 hH.2 (Wk.bind_ns (q := fun _ => (.ask (aSay me (-1)) fun _ => .ret [] : Wk (List Int))) hns)
  unfold tkV at C
  rcases hr : (beginP me n 1000).run x with ⟨r, x1⟩
  rw [hr] at C
  clear h h1
  cases r with
  | stuck => exact absurd (by rw [hr]) (Wk.bind_ns (q := fun _ => (.ask (aSay me (-1)) fun _ => .ret [] : Wk (List Int))) hns)
  | wait =>
    have HR : Hid ((begEndP me n).run x = (.wait, x1)) := Lib.hid (Wk.bind_wait hr)
    have CC := Lib.hid C
    clear C hns hr hf hH
    unfold tkV
    go_enter Try.func25, Try.ntmps25
    go_wp2_with fail
    refine CC.out.mono ?_
    rintro e w' ⟨rfl, H⟩
    change bodyPost Try.prog Try.f25 _ (Exit.panic [waitE]) _ _
    rw [HR.out]
    exact ⟨rfl, rfl, H.dropX⟩
  | done u =>
    have hR : (begEndP me n).run x = (.ask (aSay me (-1)) fun _ => .ret [] : Wk (List Int)).run x1 := Wk.bind_done hr
    have HR := Lib.hid hR
    have CC := Lib.hid C
    clear C hns hr hf hH hR
    unfold tkV
    go_enter Try.func25, Try.ntmps25
    go_wp2_with fail
    refine CC.out.mono ?_
    rintro e w' ⟨val, Y, rfl, ⟨rfl, rfl⟩, hf1, H⟩
    rw [List.append_nil] at H
    clear CC k0 k1 k2
    obtain ⟨k0, k1, k2⟩ := tk_cells (tk := b0) (me := me) (tb := pl.tb) (wb := c.wb) H X.length (by simp [tkP])
    have C := End_task (me := me) wp H hin hf1
    unfold tkV at C
    rcases hr : ((Wk.ask (aSay me (-1)) fun _ => .ret () : Wk Unit).run x1) with ⟨r, x2⟩
    rw [hr] at C
    have hq : (Wk.ask (aSay me (-1)) fun _ => .ret [] : Wk (List Int)).run x1 = (nilTo r, x2) := by
      have e1 : (Wk.ask (aSay me (-1)) fun _ => .ret [] : Wk (List Int)) = (Wk.ask (aSay me (-1)) fun _ => .ret () : Wk Unit).bind fun _ => .ret [] := rfl
      rw [e1, Wk.run_bind, hr]
      cases r <;> rfl
    have HQ := Lib.hid (HR.out.trans hq)
    have hns2 : r ≠ .stuck := by
      intro e
      subst e
      rcases ha : askT (aSay me (-1)) x1 with ⟨q, x3⟩
      cases q with
      | none => rw [Wk.run_none ha] at hr; cases hr
      | some q => rw [Wk.run_some ha] at hr; cases hr
    have CC := Lib.hid C
    clear C H hf1 hq HR hr
    cases r with
    | stuck => exact absurd rfl hns2
    | wait =>
      have HQ2 : Hid ((begEndP me n).run x = (.wait, x2)) := Lib.hid HQ.out
      clear HQ
      go_wp2_with fail
      refine CC.out.mono ?_
      rintro e w' ⟨rfl, H⟩
      change bodyPost Try.prog Try.f25 _ (Exit.panic [waitE]) _ _
      rw [HQ2.out]
      exact ⟨rfl, rfl, H.dropX⟩
    | done u2 =>
      have HQ2 : Hid ((begEndP me n).run x = (.done [], x2)) := Lib.hid HQ.out
      clear HQ
      go_wp2_with fail
      refine CC.out.mono ?_
      rintro e w' ⟨val, Y, rfl, ⟨rfl, rfl⟩, hf2, H⟩
      rw [List.append_nil] at H
      have HH := Lib.hid H.dropX
      have HF := Lib.hid hf2
      clear H hf2 CC
      go_wp2_with fail
      go_ret
      rw [HQ2.out]
      exact ⟨_, [rowP 2 1 (.slice none 0 0) 0 []], rfl, ⟨none, 0, rfl, rfl⟩, HF.out, HH.out.rowNil _ _⟩
theorem wgr_enters (x : Array Value) (z : World) : (callFunc 28 x).run Try.prog z = .ok (.enter 28 x) z := rfl
theorem wgr_does (wp : WdPl pl c) (hN : N ≤ 50000) : Does pl c me 28 #[] #[] (begEndP me n) N (HB n) w0 := by
  intro w X T x h hin hf hH hns
  have h1 := h.alloc 41 #[.pointer (some ⟨pl.tb, 0, none⟩), .pointer (some ⟨c.wb, 0, none⟩), .int .i64 me]
  rw [List.append_assoc] at h1
  generalize hHs : w.heap.size = b0 at *
  obtain ⟨k0, k1, k2⟩ := tk_cells (tk := b0) (me := me) (tb := pl.tb) (wb := c.wb) h1 X.length (by simp [tkP])
  have C := Begin_task (me := me) wp h1 hin hf hN 1000 n hH.1 hH.2 (Wk.bind_ns (q := fun _ => (.ask (aSay me (-1)) fun _ => .ret [] : Wk (List Int))) hns)
  unfold tkV at C
  rcases hr : (beginP me n 1000).run x with ⟨r, x1⟩
  rw [hr] at C
  clear h h1
  cases r with
  | stuck => exact absurd (by rw [hr]) (Wk.bind_ns (q := fun _ => (.ask (aSay me (-1)) fun _ => .ret [] : Wk (List Int))) hns)
  | wait =>
    have HR : Hid ((begEndP me n).run x = (.wait, x1)) := Lib.hid (Wk.bind_wait hr)
    have CC := Lib.hid C
    clear C hns hr hf hH
    unfold tkV
    go_enter Try.func28, Try.ntmps28
    go_wp2_with fail
    refine CC.out.mono ?_
    rintro e w' ⟨rfl, H⟩
    change bodyPost Try.prog Try.f28 _ (Exit.panic [waitE]) _ _
    rw [HR.out]
    exact ⟨rfl, rfl, H.dropX⟩
  | done u =>
    have hR : (begEndP me n).run x = (.ask (aSay me (-1)) fun _ => .ret [] : Wk (List Int)).run x1 := Wk.bind_done hr
    have HR := Lib.hid hR
    have CC := Lib.hid C
    clear C hns hr hf hH hR
    unfold tkV
    go_enter Try.func28, Try.ntmps28
    go_wp2_with fail
    refine CC.out.mono ?_
    rintro e w' ⟨val, Y, rfl, ⟨rfl, rfl⟩, hf1, H⟩
    rw [List.append_nil] at H
    clear CC k0 k1 k2
    obtain ⟨k0, k1, k2⟩ := tk_cells (tk := b0) (me := me) (tb := pl.tb) (wb := c.wb) H X.length (by simp [tkP])
    have C := End_task (me := me) wp H hin hf1
    unfold tkV at C
    rcases hr : ((Wk.ask (aSay me (-1)) fun _ => .ret () : Wk Unit).run x1) with ⟨r, x2⟩
    rw [hr] at C
    have hq : (Wk.ask (aSay me (-1)) fun _ => .ret [] : Wk (List Int)).run x1 = (nilTo r, x2) := by
      have e1 : (Wk.ask (aSay me (-1)) fun _ => .ret [] : Wk (List Int)) = (Wk.ask (aSay me (-1)) fun _ => .ret () : Wk Unit).bind fun _ => .ret [] := rfl
      rw [e1, Wk.run_bind, hr]
      cases r <;> rfl
    have HQ := Lib.hid (HR.out.trans hq)
    have hns2 : r ≠ .stuck := by
      intro e
      subst e
      rcases ha : askT (aSay me (-1)) x1 with ⟨q, x3⟩
      cases q with
      | none => rw [Wk.run_none ha] at hr; cases hr
      | some q => rw [Wk.run_some ha] at hr; cases hr
    have CC := Lib.hid C
    clear C H hf1 hq HR hr
    cases r with
    | stuck => exact absurd rfl hns2
    | wait =>
      have HQ2 : Hid ((begEndP me n).run x = (.wait, x2)) := Lib.hid HQ.out
      clear HQ
      go_wp2_with fail
      refine CC.out.mono ?_
      rintro e w' ⟨rfl, H⟩
      change bodyPost Try.prog Try.f28 _ (Exit.panic [waitE]) _ _
      rw [HQ2.out]
      exact ⟨rfl, rfl, H.dropX⟩
    | done u2 =>
      have HQ2 : Hid ((begEndP me n).run x = (.done [], x2)) := Lib.hid HQ.out
      clear HQ
      go_wp2_with fail
      refine CC.out.mono ?_
      rintro e w' ⟨val, Y, rfl, ⟨rfl, rfl⟩, hf2, H⟩
      rw [List.append_nil] at H
      have HH := Lib.hid H.dropX
      have HF := Lib.hid hf2
      clear H hf2 CC
      go_wp2_with fail
      go_ret
      rw [HQ2.out]
      exact ⟨_, [rowP 2 1 (.slice none 0 0) 0 []], rfl, ⟨none, 0, rfl, rfl⟩, HF.out, HH.out.rowNil _ _⟩
end
end Go.Proofs.Ythkohomogknddaa
