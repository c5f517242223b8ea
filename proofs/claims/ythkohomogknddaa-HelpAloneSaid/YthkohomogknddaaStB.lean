/- A thread's operation in a world, alone: a Step; Alone. No condition but on its work, what it comes to. -/
import Derived.Test.YthkohomogknddaaStA
namespace Go.Proofs.Ythkohomogknddaa
open Go Go.RowKit
set_option linter.unusedVariables false
set_option linter.unusedSimpArgs false
set_option maxRecDepth 100000
section
variable {w0 w : World} {pl : Pl Wd} {X : List Piece} {s s' : Wd} {T : Th} {c : Wc} {N b : Nat} {me : Int} {f : FuncId} {first cap : Array Value} {p : Wk (List Int)} {H : Tst Wd → Prop}
/-- One Step, where it is known what its work comes to. -/
theorem Step_run (st : StPl pl c me (.func (.func f) first cap) b) (hd : Does pl c me f first cap p N H w0) (hent : ∀ (x : Array Value) (z : World), (callFunc f x).run Try.prog z = .ok (.enter f x) z)
    (h : Heap w0 w (pl.F s T ++ X)) (hwork : T.work = stV b) (hdone : T.done = false) (hok : WdOk N s) (hlog : T.log.length ≤ 900000) (hH : H ⟨T.log, 0, false, s⟩) (r : Res (List Int) × Tst Wd) (hr : p.run ⟨T.log, 0, false, s⟩ = r) (hns : r.1 ≠ .stuck) :
    Calls Try.prog 29 #[.pointer (some ⟨pl.tb, 0, none⟩)] w (StepPost pl w0 X T r) := by
  refine Step_wd h 68 #[] #[.pointer (some ⟨b + 2, 0, none⟩), .pointer (some ⟨b, 0, none⟩), .pointer (some ⟨b + 1, 0, none⟩)] hwork hdone st_enters r hns (fun X z hz => ?_)
  have := Start_work (x := ⟨T.log, 0, false, s⟩) (T := { T with at' := 0, spent := false, inn := true }) st hd hent hz rfl ⟨Nat.zero_le _, by simp; omega, fun _ => ⟨hlog, hok⟩, hok.up (Nat.le_succ N)⟩ hH (by rw [hr]; exact hns)
  rw [hr] at this
  exact this
/-- One Step of what goes alone. -/
theorem Step_goes (st : StPl pl c me (.func (.func f) first cap) b) (hd : Does pl c me f first cap p N H w0) (hent : ∀ (x : Array Value) (z : World), (callFunc f x).run Try.prog z = .ok (.enter f x) z)
    (h : Heap w0 w (pl.F s T ++ X)) (hwork : T.work = stV b) (hdone : T.done = false) (hok : WdOk N s) (hlog : T.log.length ≤ 900000) (hH : H ⟨T.log, 0, false, s⟩) {l v : List Int} (hg : Goes p T.log s l v s') :
    (l.length ≤ 1 → Calls Try.prog 29 #[.pointer (some ⟨pl.tb, 0, none⟩)] w fun e z => ∃ T' a cp, e = .returned (.bool true) ∧ Heap w0 z (pl.F s' T' ++ X ++ [rowP 2 1 (.slice a v.length cp) v.length (intC v)]) ∧ T'.work = stV b ∧ T'.done = true ∧ T'.inn = false ∧ T'.log = T.log ++ l ∧ T'.out = .slice a v.length cp ∧ WdOk (N + 1) s' ∧ s'.ep.said.length = s.ep.said.length) ∧
    (1 < l.length → ∃ n l' s1, l = n :: l' ∧ Goes p (T.log ++ [n]) s1 l' v s' ∧ WdOk (N + 1) s1 ∧ s1.ep.said.length = s.ep.said.length ∧ Calls Try.prog 29 #[.pointer (some ⟨pl.tb, 0, none⟩)] w fun e z => ∃ T', e = .returned (.bool false) ∧ Heap w0 z (pl.F s1 T' ++ X) ∧ T'.work = stV b ∧ T'.done = false ∧ T'.inn = false ∧ T'.log = T.log ++ [n]) := by
  refine ⟨fun hl => ?_, fun hl => ?_⟩
  · cases l with
    | nil =>
      obtain ⟨rfl, hr⟩ := hg.over
      refine (Step_run st hd hent h hwork hdone hok hlog hH _ hr (by simp)).mono ?_
      rintro e z ⟨a, cp, rfl, HH⟩
      exact ⟨_, a, cp, rfl, HH, hwork, rfl, rfl, by simp [Th.of], rfl, hok.up (Nat.le_succ N), rfl⟩
    | cons n l =>
      cases l with
      | cons m l => simp at hl
      | nil =>
        obtain ⟨s1, g1, _, f', k, E, _, _, e1, e2, ht⟩ := hg.step
        obtain ⟨rfl, hr⟩ := g1 rfl
        refine (Step_run st hd hent h hwork hdone hok hlog hH _ hr (by simp)).mono ?_
        rintro e z ⟨a, cp, rfl, HH⟩
        exact ⟨_, a, cp, rfl, HH, hwork, rfl, rfl, rfl, rfl, by rw [e1]; exact ht.1 N s hok, by rw [e1]; exact ht.2 s⟩
  · cases l with
    | nil => simp at hl
    | cons n l =>
      obtain ⟨s1, _, g2, f', k, E, _, _, e1, e2, ht⟩ := hg.step
      obtain ⟨hr, hg'⟩ := g2 (by rintro rfl; simp at hl)
      refine ⟨n, l, s1, rfl, hg', by rw [e1]; exact ht.1 N s hok, by rw [e1]; exact ht.2 s, ?_⟩
      refine (Step_run st hd hent h hwork hdone hok hlog hH _ hr (by simp)).mono ?_
      rintro e z ⟨rfl, HH⟩
      exact ⟨_, rfl, HH, hwork, hdone, rfl, rfl⟩
set_option maxHeartbeats 1000000 in
/-- Alone: as many Steps as touches, one at least. -/
theorem Alone_h (st : StPl pl c me (.func (.func f) first cap) b) (hd : ∀ M, M ≤ 50000 → Does pl c me f first cap p M H w0) (hent : ∀ (x : Array Value) (z : World), (callFunc f x).run Try.prog z = .ok (.enter f x) z)
    (h : Heap w0 w (pl.F s T ++ X)) (hwork : T.work = stV b) (hdone : T.done = false) (hok : WdOk N s) (hN : N ≤ 40000) (hlog : T.log.length ≤ 800000) {l v : List Int} (hg : Goes p T.log s l v s') (hl : l.length ≤ 3000) (hv : v.length ≤ 1000000)
    (hH : ∀ log s1, log <+: T.log ++ l → s1.ep.said.length = s.ep.said.length → H ⟨log, 0, false, s1⟩) :
    Calls Try.prog 19 #[.pointer (some ⟨pl.tb, 0, none⟩)] w fun e z => ∃ T' a cp a2 cp2, e = .returned (.tuple #[.slice a2 v.length cp2, .int .i64 (max l.length 1 : Nat), .bool true]) ∧ Heap w0 z (pl.F s' T' ++ (X ++ [rowP 2 1 (.slice a v.length cp) v.length (intC v), rowP 2 1 (.slice a2 v.length cp2) v.length (intC v)])) ∧
      T'.work = stV b ∧ T'.done = true ∧ T'.inn = false ∧ T'.log = T.log ++ l ∧ T'.out = .slice a v.length cp ∧ WdOk (N + max l.length 1) s' ∧ s'.ep.said.length = s.ep.said.length := by
  have HD := Lib.hid hd
  have HHH := Lib.hid hH
  have HH := Lib.hid h
  have HG := Lib.hid hg
  have HO := Lib.hid hok
  have HW := Lib.hid hwork
  clear hd hH h hg hok hwork
  go_enter Try.func19, Try.ntmps19
  go_wp2_with fail
  go_loopw [5] (fun i wr => ∃ (k : Nat) (T1 : Th) (s1 : Wd) (l1 : List Int), i = .int .i64 (k : Nat) ∧ k + max l1.length 1 = max l.length 1 ∧ Hid (T.log ++ l = T1.log ++ l1) ∧ Hid (T1.work = stV b ∧ T1.done = false) ∧ Hid (Goes p T1.log s1 l1 v s') ∧ Hid (WdOk (N + k) s1) ∧ Hid (s1.ep.said.length = s.ep.said.length) ∧ Hid (Heap w0 wr (pl.F s1 T1 ++ X))) (fun i _ => 3001 - (intOf i).toNat)
  case atStart => exact ⟨0, T, s, l, rfl, by omega, Lib.hid rfl, Lib.hid ⟨HW.out, hdone⟩, HG, HO, Lib.hid rfl, HH⟩
  case round =>
    clear HH HG HO HW
    obtain ⟨k, T1, s1, l1, rfl, hk, HL, HT, HG, HO, HS, HH⟩ := hrel
    have h1 : T1.log.length ≤ 900000 := by have := congrArg List.length HL.out; simp at this; omega
    obtain ⟨g1, g2⟩ := Step_goes st (HD.out (N + k) (by omega)) hent HH.out HT.out.1 HT.out.2 HO.out h1 (HHH.out T1.log s1 (by rw [HL.out]; exact List.prefix_append _ _) HS.out) HG.out
    by_cases hl1 : l1.length ≤ 1
    · have C := Lib.hid (g1 hl1)
      clear g1 g2 HH
      go_wp2_with fail
      refine C.out.mono ?_
      rintro e z ⟨T', a, cp, rfl, H1, t1, t2, t3, t4, t5, t6, t7⟩
      have CO := Lib.hid (Out_some H1 pl.ti (get_left (get_left (pl.get s' T'))) t2 a v.length cp t5 v ((H1.row (pl.F s' T' ++ X).length (t := 2) (sz := 1) (n := v.length) (v := .slice a v.length cp) (us := intC v) (by simp)).rdv) (by omega))
      have HT' := Lib.hid (And.intro t1 (And.intro t2 (And.intro t3 (And.intro t4 (And.intro t5 (And.intro t6 t7))))))
      clear C H1 t1 t2 t3 t4 t5 t6 t7
      go_wp2_with fail
      refine CO.out.mono ?_
      rintro e w2 ⟨a2, cp2, rfl, H2⟩
      have HH2 := Lib.hid H2
      clear H2 CO
      go_wp2_with fail
      refine bodyPost_ret (v := .tuple #[.slice a2 v.length cp2, .int .i64 ((k : Int) + 1), .bool true]) (by simp [results, Try.results19, go_sem]) rfl ?_
      obtain ⟨t1, t2, t3, t4, t5, t6, t7⟩ := HT'.out
      have hkk : k + 1 = max l.length 1 := by omega
      refine ⟨T', a, cp, a2, cp2, by rw [← hkk]; go_num, by have h9 := HH2.out; rw [List.append_assoc, List.append_assoc] at h9; exact h9, t1, t2, t3, by rw [t4, HL.out], t5, by rw [← hkk]; exact t6, t7.trans HS.out⟩
    · obtain ⟨n, l2, s2, rfl, hg2, ok2, hs2, C2⟩ := g2 (by omega)
      have C := Lib.hid C2
      have HG2 := Lib.hid hg2
      have HO2 := Lib.hid ok2
      have HS2 := Lib.hid (hs2.trans HS.out)
      clear g1 g2 C2 hg2 ok2 hs2 HG HO HS HH
      go_wp2_with fail
      refine C.out.mono ?_
      rintro e z ⟨T', rfl, H1, t1, t2, t3, t4⟩
      have HH1 := Lib.hid H1
      have HT1 : Hid (T'.work = stV b ∧ T'.done = false) := Lib.hid ⟨t1, t2⟩
      have HL1 : Hid (T.log ++ l = T'.log ++ l2) := Lib.hid (by rw [HL.out, t4]; simp)
      have hG : Goes p T'.log s2 l2 v s' := by rw [t4]; exact HG2.out
      have HG1 := Lib.hid hG
      clear C H1 t1 t2 t3 t4 hG
      simp only [List.length_cons] at hk hl1
      go_wp2_with fail
      exact ⟨⟨k + 1, T', s2, l2, by go_num, by omega, HL1, HT1, HG1, HO2, HS2, HH1⟩, by simp [intOf]; omega⟩
end
end Go.Proofs.Ythkohomogknddaa
