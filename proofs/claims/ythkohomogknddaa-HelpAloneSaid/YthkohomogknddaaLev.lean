/- Nodes that are let go, by a thread alone: what waits then; an operation that lets go some nodes. No condition. -/
import Derived.Test.YthkohomogknddaaTsl
import Derived.Test.YthkohomogknddaaWWo3
namespace Go.Proofs.Ythkohomogknddaa
open Go Go.RowKit
set_option linter.unusedVariables false
set_option linter.unusedSimpArgs false
set_option maxRecDepth 100000
def tagNd : Nd := ⟨false, true, [], [], []⟩
def tgSl : Sl := ⟨tagNd, [], 0, false, 1, true⟩
def tgS (k : Nat) : Ar := ⟨[rootSl, entrySl] ++ List.replicate k tgSl, [], 30, 2 + (k : Int), 0⟩
theorem arAt_told {ar : Ar} {i : Nat} (h : 2 + i < ar.slots.length) (hi : i ≤ 1000) (hu : (ar.at (2 + i)).used = true) (hc : (ar.at (2 + i)).count = 1) : arAt ar (told i) = some (2 + i) := by
  unfold Ar.at at hu hc
  unfold arAt
  simp only [told_at i hi, Int.toNat_natCast, hu, hc]
  rw [if_pos ⟨by omega, by omega, trivial, rfl⟩]
theorem tgS_get {k i : Nat} (h : i < k) : (tgS k).at (2 + i) = tgSl := by
  unfold Ar.at tgS
  simp only [List.getD_eq_getElem?_getD]
  rw [List.getElem?_append_right (by simp)]
  simp [List.getElem?_replicate, h]
theorem tgS_look {k i : Nat} (h : i < k) (hk : k ≤ 1000) : lookAr (told i) (tgS k) = (tagNd, tgS k) := by
  unfold lookAr
  rw [arAt_told (by simp [tgS]; omega) (by omega) (by rw [tgS_get h]; rfl) (by rw [tgS_get h]; rfl)]
  simp only [tgS_get h]; rfl
theorem tgS_alloc {k : Nat} (h : k < 28) : allocAr tagNd (tgS k) = ((told k, true), tgS (k + 1)) := by
  rw [alloc_next tagNd (by unfold tgS; simp; omega) rfl]
  have : (tgS k).slots.length = 2 + k := by simp [tgS]; omega
  rw [this]
  unfold told tgS
  simp only [Prod.mk.injEq, Ar.mk.injEq, true_and, and_true]
  refine ⟨?_, by simp; omega⟩
  simp [List.replicate_succ', newSl, tgSl, tagNd]
theorem tgS_ok {k N : Nat} (hk : k ≤ 20) (hN : 60 ≤ N) : OkN (tgS k) N := by
  have hl : (tgS k).slots.length = 2 + k := by simp [tgS]; omega
  refine ⟨⟨by show (0 : Int) ≤ 30; omega, by show (30 : Int) ≤ 65536; omega⟩, by show -(N : Int) ≤ 2 + (k : Int) ∧ 2 + (k : Int) ≤ N; omega, by rw [hl]; omega, fun s hs => ?_, by show (0 : Int) ≤ 0 ∧ (0 : Int) ≤ N; omega, fun i hi => by simp [tgS] at hi, by simp [tgS]⟩
  simp only [tgS, List.mem_append, List.mem_cons, List.not_mem_nil, or_false, List.mem_replicate] at hs
  rcases hs with (rfl | rfl) | ⟨_, rfl⟩
  · exact ⟨by show 1 ≤ N; omega, by simp [rootSl, rootNd, Nd.few]⟩
  · exact ⟨by show 1 ≤ N; omega, by simp [entrySl, entryNd, Nd.few]⟩
  · exact ⟨by show 1 ≤ N; omega, by simp [tgSl, tagNd, Nd.few]⟩
/-- The world of WorldLeaves. -/
def lvW (k : Nat) (now : Int) (g : List (Int × Int)) : Wd := ⟨tgS k, ⟨[], 20⟩, ⟨now, [-1, -1], [[], g]⟩⟩
theorem lvW_ok {k N : Nat} {now : Int} {i : Nat} {ats : List Int} (hk : k ≤ 20) (hN : 60 ≤ N) (hn : 0 ≤ now ∧ now ≤ N) (ha : ∀ a ∈ ats, 0 ≤ a ∧ a ≤ 255) (hl : ats.length ≤ 20) : WdOk N (lvW k now (goneL i ats)) := by
  refine ⟨tgS_ok hk hN, ⟨hn, fun l hl p hp => ?_, ?_, rfl⟩, fun e he => by simp [lvW] at he⟩
  · simp [lvW] at hl
    rcases hl with rfl | rfl
    · simp at hp
    · have := ha _ (goneL_ats _ _ _ hp); omega
  · show waits [[], goneL i ats] ≤ N
    have := goneL_len ats i
    simp [waits]; omega
theorem runs_leave (now : Int) (hn : inR now) (k : Nat) : ∀ (m j : Nat), ∃ l, Runs ev0 (leaveP 1 ((List.range' j m).map told)) (lvW k now (goneL 0 (List.replicate j now))) l () ev0 (lvW k now (goneL 0 (List.replicate (j + m) now))) ∧ l.length = 2 * m ∧ ∀ a ∈ l, inR a
  | 0, j => ⟨[], .ret, rfl, by simp⟩
  | m + 1, j => by
    obtain ⟨l, h1, h2, h3⟩ := runs_leave now hn k m (j + 1)
    refine ⟨now :: 0 :: l, ?_, by simp [h2]; omega, fun a ha => ?_⟩
    · rw [List.range'_succ, List.map_cons]
      unfold leaveP
      refine Runs.ask1 tame_now (s1 := lvW k now (goneL 0 (List.replicate j now))) (n := now) rfl ?_
      refine Runs.ask1 (tame_leave 1 (told j) now hn) (s1 := lvW k now (goneL 0 (List.replicate (j + 1) now))) (n := 0) ?_ ?_
      · have e : goneL 0 (List.replicate (j + 1) now) = goneL 0 (List.replicate j now) ++ [(told j, now)] := by
          rw [List.replicate_succ', goneL_snoc]; simp
        unfold aLeave leaveEp
        rw [if_pos (show isT 1 (lvW k now (goneL 0 (List.replicate j now))).ep.said.length = true from rfl), e]
        rfl
      · rw [show j + (m + 1) = j + 1 + m from by omega]
        exact h1
    · simp only [List.mem_cons] at ha
      rcases ha with rfl | rfl | ha
      · exact hn
      · exact ⟨by omega, by omega⟩
      · exact h3 a ha
/-- What it was told is in range. -/
def HR (x : Tst Wd) : Prop := x.spent = false → ∀ n ∈ x.log, inR n
theorem HR_all {l : List Int} {s : Wd} (hl : ∀ a ∈ l, inR a) : ∀ log s1, log <+: l → s1.ep.said.length = s.ep.said.length → HR ⟨log, 0, false, s1⟩ := fun log s1 h1 h2 _ a ha => hl a (h1.subset ha)
def leavesP (me : Int) (rs : List Int) : Wk (List Int) := (leaveP me rs).bind fun _ => .ret []
section
variable {w0 w : World} {pl : Pl Wd} {c : Wc} {me : Int} {N : Nat}
theorem wlv_enters (x : Array Value) (z : World) : (callFunc 42 x).run Try.prog z = .ok (.enter 42 x) z := rfl
theorem wlv_does (wp : WdPl pl c) (hN : N ≤ 50000) {lb : Nat} {v : Value} {rs : List Int} (hm : rs.length ≤ 1000000) (li ri : Nat) (hl : ∀ s T, (pl.F s T)[li]? = some (blkP lb 50 #[v])) (hr : ∀ s T, (pl.F s T)[ri]? = some (rowP 29 1 v rs.length (intC rs))) :
    Does pl c me 42 #[] #[.pointer (some ⟨lb, 0, none⟩)] (leavesP me rs) N HR w0 := by
  intro w X T x h hin hf hH hns
  have h1 := h.alloc 41 #[.pointer (some ⟨pl.tb, 0, none⟩), .pointer (some ⟨c.wb, 0, none⟩), .int .i64 me]
  rw [List.append_assoc] at h1
  generalize hHs : w.heap.size = b0 at *
  obtain ⟨k0, k1, k2⟩ := tk_cells (tk := b0) (me := me) (tb := pl.tb) (wb := c.wb) h1 X.length (by simp [tkP])
  have kl : (w.alloc (.cells #[.pointer (some ⟨pl.tb, 0, none⟩), .pointer (some ⟨c.wb, 0, none⟩), .int .i64 me] 41)).cell? ⟨lb, 0, none⟩ = some v := (h1.blk li (get_left (hl _ _))).cell 0
  have C := Leave_task (me := me) wp h1 hin hf hN hH v rs hm (fun z s T Y hz => (hz.row ri (get_left (hr s T))).rdv)
  unfold tkV at C
  rcases hq : (leaveP me rs).run x with ⟨r, x1⟩
  rw [hq] at C
  clear h h1
  cases r with
  | stuck => exact absurd (by rw [hq]) (Wk.bind_ns (q := fun _ => (.ret [] : Wk (List Int))) hns)
  | wait =>
    have HR : Hid ((leavesP me rs).run x = (.wait, x1)) := Lib.hid (Wk.bind_wait hq)
    have CC := Lib.hid C
    clear C hns hq hf hH
    unfold tkV
    go_enter Try.func42, Try.ntmps42
    go_wp2_with fail
    refine CC.out.mono ?_
    rintro e w' ⟨rfl, H⟩
    change bodyPost Try.prog Try.f42 _ (Exit.panic [waitE]) _ _
    rw [HR.out]
    exact ⟨rfl, rfl, H.dropX⟩
  | done u =>
    have hR : (leavesP me rs).run x = (.ret [] : Wk (List Int)).run x1 := Wk.bind_done hq
    have HR := Lib.hid hR
    have CC := Lib.hid C
    clear C hns hq hf hH hR
    unfold tkV
    go_enter Try.func42, Try.ntmps42
    go_wp2_with fail
    refine CC.out.mono ?_
    rintro e w' ⟨val, Y, rfl, ⟨rfl, rfl⟩, hf1, H⟩
    rw [List.append_nil] at H
    clear CC k0 k1 k2
    have HH := Lib.hid H.dropX
    have HF := Lib.hid hf1
    clear H hf1
    go_wp2_with fail
    go_ret
    rw [HR.out]
    exact ⟨_, [rowP 2 1 (.slice none 0 0) 0 []], rfl, ⟨none, 0, rfl, rfl⟩, HF.out, HH.out.rowNil _ _⟩
end
end Go.Proofs.Ythkohomogknddaa
