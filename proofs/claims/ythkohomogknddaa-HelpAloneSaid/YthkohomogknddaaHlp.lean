/- help.set and help.Record, touch by touch. No condition but the bounds of size. -/
import Derived.Test.YthkohomogknddaaHtc
import Derived.Test.YthkohomogknddaaTsk
namespace Go.Proofs.Ythkohomogknddaa
open Go Go.RowKit
set_option linter.unusedVariables false
set_option linter.unusedSimpArgs false
set_option maxRecDepth 100000
def setP (n v : Int) : Wk Unit := .ask (aSet n v) fun _ => .ret ()
def inf3 (n d : Int) : Wk (Option Bool) := if d = 1 then .ret (some true) else .ask (aSet n 0) fun _ => .ret (some false)
def inf2 (n : Int) (q : Wk (Option Bool)) (b : Int) : Wk (Option Bool) := if b = n then q else .ask (aAll n) (inf3 n)
def inf1 (n r : Int) (q : Wk (Option Bool)) (a : Int) : Wk (Option Bool) := if a = 1 then q else .ask (aInfo r) (inf2 n q)
/-- Node by node: nothing, if all are its own; else what it comes to. -/
def infosP (n : Int) : List (Int × Int) → Wk (Option Bool)
  | [] => .ret none
  | (r, i) :: l => .ask (aSwapInfo r i n) (inf1 n r (infosP n l))
def marksP : List Int → Wk Unit
  | [] => .ret ()
  | r :: l => .ask (aSetMark r) fun _ => marksP l
def firstP (c : Rc) : Wk Unit := match c.nodes with
  | [] => .ret ()
  | r :: _ => .ask (aSwapWay r c.way c.old c.new) fun _ => .ret ()
def keepL (c : Rc) : List Int := c.nodes.drop (min c.keep c.nodes.length).toNat
def endP (n : Int) (c : Rc) : Wk Bool := .ask (aSetAll n) fun _ => (marksP (keepL c)).bind fun _ => (firstP c).bind fun _ => .ask (aSet n 2) fun _ => .ret true
def moreP (n : Int) (c : Rc) (r : Option Bool) : Wk Bool := match r with
  | some b => .ret b
  | none => endP n c
def recP (n : Int) (c : Rc) : Wk Bool := if 0 ≤ c.keep ∧ c.nodes.length ≤ c.infos.length then (infosP n (c.nodes.zip c.infos)).bind (moreP n c) else .stuck
def helpP (n : Int) : Wk Bool := .recd n (recP n)
def boolR (b : Bool) (v : Value) (Y : List Piece) : Prop := v = .bool b ∧ Y = []
theorem hset_enters (x : Array Value) (z : World) : (callFunc 104 x).run Try.prog z = .ok (.enter 104 x) z := rfl
theorem hswap_enters (x : Array Value) (z : World) : (callFunc 95 x).run Try.prog z = .ok (.enter 95 x) z := rfl
theorem hinfo_enters (x : Array Value) (z : World) : (callFunc 96 x).run Try.prog z = .ok (.enter 96 x) z := rfl
theorem hall_enters (x : Array Value) (z : World) : (callFunc 97 x).run Try.prog z = .ok (.enter 97 x) z := rfl
theorem hsetAll_enters (x : Array Value) (z : World) : (callFunc 99 x).run Try.prog z = .ok (.enter 99 x) z := rfl
theorem hmark_enters (x : Array Value) (z : World) : (callFunc 100 x).run Try.prog z = .ok (.enter 100 x) z := rfl
theorem hway_enters (x : Array Value) (z : World) : (callFunc 102 x).run Try.prog z = .ok (.enter 102 x) z := rfl
theorem lookRt_few {N : Nat} {s : Wd} (ok : WdOk N s) (n : Int) : (lookRt n s.rt).nodes.length ≤ 1000 ∧ (lookRt n s.rt).infos.length ≤ 1000 := by
  unfold lookRt
  cases he : entOf s.rt.es n with
  | none => simp [noRc]
  | some e =>
    obtain ⟨i, _, hi⟩ := entOf_some he
    exact ok.rt e (List.mem_of_getElem? hi)
section
variable {w0 w : World} {pl : Pl Wd} {X : List Piece} {T : Th} {c : Wc} {N : Nat} {me : Int} {x : Tst Wd}
theorem rec_cells {s : Wd} {T : Th} {b0 b1 : Nat} {n : Int} {Y : List Piece} (wp : WdPl pl c) (h : Heap w0 w (pl.F s T ++ (X ++ (tkP pl.tb c.wb b0 me :: blkP b1 2 #[.int .i64 n] :: Y)))) : w.cell? ⟨b0, 1, none⟩ = some (.pointer (some ⟨c.wb, 0, none⟩)) ∧ w.cell? ⟨c.wb, 1, none⟩ = some (.pointer (some ⟨c.rb, 0, none⟩)) ∧ w.cell? ⟨b1, 0, none⟩ = some (.int .i64 n) := by
  obtain ⟨k0, k1, k2⟩ := tk_cells (tk := b0) (me := me) (tb := pl.tb) (wb := c.wb) h X.length (by simp [tkP])
  obtain ⟨v0, v1, v2, v3, v4, v5⟩ := wd_cells wp h
  exact ⟨k1, v1, (x_blk (b := b1) (t := 2) (cs := #[.int .i64 n]) h (X.length + 1) (by simp)).cell 0⟩
theorem Heap.setX6 {A X : List Piece} {b : Nat} {t : TypeId} {u0 u1 u2 u3 u4 u5 v0 v1 v2 v3 v4 v5 : Value} (h : Heap w0 w (A ++ X)) (i : Nat) (hi : X[i]? = some (blkP b t #[u0, u1, u2, u3, u4, u5])) :
    Heap w0 ((((((w.setCell ⟨b, 0, none⟩ v0).setCell ⟨b, 1, none⟩ v1).setCell ⟨b, 2, none⟩ v2).setCell ⟨b, 3, none⟩ v3).setCell ⟨b, 4, none⟩ v4).setCell ⟨b, 5, none⟩ v5) (A ++ X.set i (blkP b t #[v0, v1, v2, v3, v4, v5])) := by
  have h6 := (((((h.setX i hi 0 v0).setX i (get_set hi _) 1 v1).setX i (get_set (get_set hi _) _) 2 v2).setX i (get_set (get_set (get_set hi _) _) _) 3 v3).setX i (get_set (get_set (get_set (get_set hi _) _) _) _) 4 v4).setX i (get_set (get_set (get_set (get_set (get_set hi _) _) _) _) _) 5 v5
  simp only [List.set_set] at h6
  exact h6
set_option maxHeartbeats 1000000 in
theorem Set_task (wp : WdPl pl c) (h : Heap w0 w (pl.F x.sh (T.of x) ++ X)) (hin : T.inn = true) (hf : FitW N x) (n v : Int) :
    Calls Try.prog 98 #[tkV pl.tb c.wb me, .int .i64 n, .int .u8 v] w (TaskP pl w0 X T N unitR ((setP n v).run x)) := by
  have h1 := ((h.alloc 41 #[.pointer (some ⟨pl.tb, 0, none⟩), .pointer (some ⟨c.wb, 0, none⟩), .int .i64 me]).alloc 2 #[.int .i64 n]).alloc 83 #[.int .u8 v]
  have s1 : (w.alloc (.cells #[.pointer (some ⟨pl.tb, 0, none⟩), .pointer (some ⟨c.wb, 0, none⟩), .int .i64 me] 41)).heap.size = w.heap.size + 1 := by simp
  have s2 : ((w.alloc (.cells #[.pointer (some ⟨pl.tb, 0, none⟩), .pointer (some ⟨c.wb, 0, none⟩), .int .i64 me] 41)).alloc (.cells #[.int .i64 n] 2)).heap.size = w.heap.size + 2 := by simp
  rw [s1, s2, List.append_assoc, List.append_assoc, List.append_assoc] at h1
  have C := Do_wd h1 hin hf 104 #[] #[.pointer (some ⟨w.heap.size, 0, none⟩), .pointer (some ⟨w.heap.size + 1, 0, none⟩), .pointer (some ⟨w.heap.size + 2, 0, none⟩)] hset_enters (aSet n v) (fun T z _ _ hz => set_touch (me := me) wp hz X.length (by simp [tkP]) (X.length + 1) n (by simp) (X.length + 2) v (by simp))
  obtain ⟨k0, k1, k2⟩ := tk_cells (tk := w.heap.size) (me := me) (tb := pl.tb) (wb := c.wb) h1 X.length (by simp [tkP])
  generalize hH : w.heap.size = b0 at *
  generalize hb1 : b0 + 1 = b1 at *
  generalize hb20 : b0 + 2 = b2 at *
  have hb2 : b1 + 1 = b2 := by omega
  generalize hz : ((w.alloc (.cells #[.pointer (some ⟨pl.tb, 0, none⟩), .pointer (some ⟨c.wb, 0, none⟩), .int .i64 me] 41)).alloc (.cells #[.int .i64 n] 2)).alloc (.cells #[.int .u8 v] 83) = z at *
  have hmf : ∀ (fn : Fn) (first cap : Array Value) (z : World), (Instr.makeFunc fn first cap).run Try.prog z = .ok (.func fn first cap) z := fun _ _ _ _ => rfl
  unfold setP
  rcases hr : askT (aSet n v) x with ⟨r, x'⟩
  rw [hr] at C
  clear h h1 s1 s2
  cases r with
  | none =>
    rw [Wk.run_none hr]
    have CC := Lib.hid C
    clear C
    unfold tkV
    go_enter Try.func98, Try.ntmps98
    go_wp2_with fail
    refine CC.out.mono ?_
    rintro e w' ⟨rfl, H⟩
    change bodyPost Try.prog Try.f98 _ (Exit.panic [waitE]) _ _
    exact ⟨rfl, rfl, H.dropX⟩
  | some q =>
    rw [Wk.run_some hr]
    have HG := Lib.hid (hf.ask (good_set n v) hr)
    have CC := Lib.hid C
    clear C hf
    unfold tkV
    go_enter Try.func98, Try.ntmps98
    go_wp2_with fail
    refine CC.out.mono ?_
    rintro e w' ⟨rfl, H⟩
    have HF := Lib.hid H.dropX
    clear H
    go_wp2_with fail
    go_end0
    exact ⟨_, [], rfl, ⟨rfl, rfl⟩, HG.out, by rw [List.append_nil]; exact HF.out⟩
set_option maxHeartbeats 8000000 in
theorem Record_task (wp : WdPl pl c) (h : Heap w0 w (pl.F x.sh (T.of x) ++ X)) (hin : T.inn = true) (hf : FitW N x) (hN' : N ≤ 50000) (n : Int) (hns : ((helpP n).run x).1 ≠ .stuck) :
    Calls Try.prog 90 #[tkV pl.tb c.wb me, .int .i64 n] w (TaskP pl w0 X T N boolR ((helpP n).run x)) := by
  have h1 := (h.alloc 41 #[.pointer (some ⟨pl.tb, 0, none⟩), .pointer (some ⟨c.wb, 0, none⟩), .int .i64 me]).alloc 2 #[.int .i64 n]
  have s1 : (w.alloc (.cells #[.pointer (some ⟨pl.tb, 0, none⟩), .pointer (some ⟨c.wb, 0, none⟩), .int .i64 me] 41)).heap.size = w.heap.size + 1 := by simp
  rw [s1, List.append_assoc, List.append_assoc] at h1
  generalize hH : w.heap.size = b0 at *
  generalize hb1 : b0 + 1 = b1 at *
  generalize hz1 : (w.alloc (.cells #[.pointer (some ⟨pl.tb, 0, none⟩), .pointer (some ⟨c.wb, 0, none⟩), .int .i64 me] 41)).alloc (.cells #[.int .i64 n] 2) = z1 at *
  clear h s1
  have hfew := lookRt_few hf.ok n
  have CL : ∀ (z : World) (Y : List Piece), Heap w0 z (pl.F x.sh (T.of x) ++ Y) → Calls Try.prog 94 #[.pointer (some ⟨c.rb, 0, none⟩), .int .i64 n] z fun e w' => ∃ a2 c2 a3 c3, e = .returned (rcV (lookRt n x.sh.rt) (.slice a2 (lookRt n x.sh.rt).nodes.length c2) (.slice a3 (lookRt n x.sh.rt).infos.length c3)) ∧ Heap w0 w' (pl.F x.sh (T.of x) ++ (Y ++ rcL (lookRt n x.sh.rt) (.slice a2 (lookRt n x.sh.rt).nodes.length c2) (.slice a3 (lookRt n x.sh.rt).infos.length c3))) := fun z Y hz => by
    refine (RtLook_h hz (wp.wi + 2) (get_left (wp.g2 _ _)) n).mono ?_
    rintro e w' ⟨a2, c2, a3, c3, rfl, H⟩
    rw [List.append_assoc] at H
    exact ⟨a2, c2, a3, c3, rfl, H⟩
  rw [show (helpP n).run x = (recP n (lookRt n x.sh.rt)).run x from rfl] at hns ⊢
  generalize lookRt n x.sh.rt = cc at *
  unfold recP at hns ⊢
  split at hns
  case isFalse => exact absurd rfl hns
  rename_i hg
  rw [if_pos hg]
  obtain ⟨hg1, hg2⟩ := hg
  obtain ⟨hl1, hl2⟩ := hfew
  generalize hP : ((infosP n (cc.nodes.zip cc.infos)).bind (moreP n cc)).run x = res at *
  have HP := Lib.hid hP
  have HF := Lib.hid hf
  have q0 : z1.drew.cell? ⟨b0, 1, none⟩ = some (.pointer (some ⟨c.wb, 0, none⟩)) ∧ z1.drew.cell? ⟨c.wb, 1, none⟩ = some (.pointer (some ⟨c.rb, 0, none⟩)) ∧ z1.drew.cell? ⟨b1, 0, none⟩ = some (.int .i64 n) := rec_cells (Y := []) wp h1.drew
  have HH : Hid (Heap w0 z1.drew (pl.F x.sh (T.of x) ++ (X ++ (tkP pl.tb c.wb b0 me :: blkP b1 2 #[.int .i64 n] :: [])))) := Lib.hid h1.drew
  have CLH := Lib.hid CL
  unfold rcV at CLH
  have hmf : ∀ (fn : Fn) (first cap : Array Value) (z : World), (Instr.makeFunc fn first cap).run Try.prog z = .ok (.func fn first cap) z := fun _ _ _ _ => rfl
  clear hf hP h1 CL
  unfold tkV
  go_enter Try.func90, Try.ntmps90
  go_upto_region 1 with fail
  go_cut [5] (fun s5 wx => ∃ (rk : Nat) (a2 : Option Addr) (c2 : Nat) (a3 : Option Addr) (c3 : Nat), s5 = .pointer (some ⟨rk, 0, none⟩) ∧ Hid (Heap w0 wx (pl.F x.sh (T.of x) ++ (X ++ [tkP pl.tb c.wb b0 me, blkP b1 2 #[.int .i64 n], rowP 29 1 (.slice a2 cc.nodes.length c2) cc.nodes.length (intC cc.nodes), rowP 2 1 (.slice a3 cc.infos.length c3) cc.infos.length (intC cc.infos), blkP rk 78 #[.slice a2 cc.nodes.length c2, .slice a3 cc.infos.length c3, .int .i64 cc.keep, .int .i64 cc.way, .int .i64 cc.old, .int .i64 cc.new]]))))
  case first =>
    clear HP HF
    refine wp_region_noPanic ?_
    refine AnyK.start (ks := [6, 8]) (S := fun w' => w'.cell? ⟨b0, 1, none⟩ = some (.pointer (some ⟨c.wb, 0, none⟩)) ∧ w'.cell? ⟨c.wb, 1, none⟩ = some (.pointer (some ⟨c.rb, 0, none⟩)) ∧ w'.cell? ⟨b1, 0, none⟩ = some (.int .i64 n)) (by kernel_rfl) (by exact q0) (fun _ => ?_)
    refine AnyK.takeB (i := 0) (v := ?_) rfl (by kernel_rfl) (by kernel_rfl) (by kernel_rfl) (by kernel_rfl) (fun _ _ _ h => h) (Or.inl ⟨by rfl, ?_⟩) (by exact q0) ?_
    rotate_left
    focus
      intro w9 hSw
      try dsimp only at hSw
      go_simp
      try with_reducible rfl
    try simp only [Act.put, List.setIfInBounds_toArray, List.set_cons_zero, List.set_cons_succ]
    refine AnyK.takeB (i := 1) (v := ?_) rfl (by kernel_rfl) (by kernel_rfl) (by kernel_rfl) (by kernel_rfl) (fun _ _ _ h => h) (Or.inl ⟨by rfl, ?_⟩) (by exact q0) ?_
    rotate_left
    focus
      intro w9 hSw
      try dsimp only at hSw
      go_simp
      try with_reducible rfl
    try simp only [Act.put, List.setIfInBounds_toArray, List.set_cons_zero, List.set_cons_succ]
    refine AnyK.takeB (i := 2) (v := ?_) rfl (by kernel_rfl) (by kernel_rfl) (by kernel_rfl) (by kernel_rfl) (fun _ _ _ h => h) (Or.inl ⟨by rfl, ?_⟩) (by exact q0) ?_
    rotate_left
    focus
      intro w9 hSw
      try dsimp only at hSw
      go_simp
      try with_reducible rfl
    try simp only [Act.put, List.setIfInBounds_toArray, List.set_cons_zero, List.set_cons_succ]
    refine AnyK.takeB (i := 3) (v := ?_) rfl (by kernel_rfl) (by kernel_rfl) (by kernel_rfl) (by kernel_rfl) (fun _ _ _ h => h) (Or.inl ⟨by rfl, ?_⟩) (by exact q0) ?_
    rotate_left
    focus
      intro w9 hSw
      try dsimp only at hSw
      go_simp
      try with_reducible rfl
    try simp only [Act.put, List.setIfInBounds_toArray, List.set_cons_zero, List.set_cons_succ]
    refine AnyK.takeB (i := 4) (v := ?_) rfl (by kernel_rfl) (by kernel_rfl) (by kernel_rfl) (by kernel_rfl) (fun _ _ _ h => h) (Or.inl ⟨by rfl, ?_⟩) (by exact q0) ?_
    rotate_left
    focus
      intro w9 hSw
      try dsimp only at hSw
      go_simp
      try with_reducible rfl
    try simp only [Act.put, List.setIfInBounds_toArray, List.set_cons_zero, List.set_cons_succ]
    refine AnyK.takeB (i := 5) (v := ?_) rfl (by kernel_rfl) (by kernel_rfl) (by kernel_rfl) (by kernel_rfl) (fun _ _ _ h => h) (Or.inl ⟨by rfl, ?_⟩) (by exact q0) ?_
    rotate_left
    focus
      intro w9 hSw
      try dsimp only at hSw
      go_simp
      try with_reducible rfl
    try simp only [Act.put, List.setIfInBounds_toArray, List.set_cons_zero, List.set_cons_succ]
    generalize hz2 : z1.drew = z2 at *
    refine AnyK.two (i := 6) (j := 7) (by kernel_rfl) rfl rfl (fun K9 hK9 => ?_) (fun K9 hK9 => ?_)
    · go_simp
      refine (CLH.out _ _ HH.out).mono ?_
      rintro e y1 ⟨a2, c2, a3, c3, rfl, H8⟩
      have H8 : Heap w0 y1 (pl.F x.sh (T.of x) ++ (X ++ (tkP pl.tb c.wb b0 me :: blkP b1 2 #[.int .i64 n] :: rcL cc (.slice a2 cc.nodes.length c2) (.slice a3 cc.infos.length c3)))) := by rw [List.append_assoc] at H8; exact H8
      refine hK9.out _ _ (fun hx => absurd (by decide) hx) ?_
      clear hK9 K9
      try simp only [Act.put, List.setIfInBounds_toArray, List.set_cons_zero, List.set_cons_succ]
      have H9 := H8.alloc 78 #[.slice none 0 0, .slice none 0 0, .int .i64 0, .int .i64 0, .int .i64 0, .int .i64 0]
      have qs := rec_cells (Y := rcL cc (.slice a2 cc.nodes.length c2) (.slice a3 cc.infos.length c3) ++ [blkP y1.heap.size 78 #[.slice none 0 0, .slice none 0 0, .int .i64 0, .int .i64 0, .int .i64 0, .int .i64 0]]) wp (by simpa using H9)
      rw [List.append_assoc, List.append_assoc] at H9
      have H9 : Heap w0 (y1.alloc (.cells #[.slice none 0 0, .slice none 0 0, .int .i64 0, .int .i64 0, .int .i64 0, .int .i64 0] 78)) (pl.F x.sh (T.of x) ++ (X ++ [tkP pl.tb c.wb b0 me, blkP b1 2 #[.int .i64 n], rowP 29 1 (.slice a2 cc.nodes.length c2) cc.nodes.length (intC cc.nodes), rowP 2 1 (.slice a3 cc.infos.length c3) cc.infos.length (intC cc.infos), blkP y1.heap.size 78 #[.slice none 0 0, .slice none 0 0, .int .i64 0, .int .i64 0, .int .i64 0, .int .i64 0]])) := H9
      refine AnyK.one (i := 7) (by kernel_rfl) rfl (fun K9 hK9 => ?_)
      go_simp
      refine hK9.out _ _ (fun _ => qs) ?_
      clear hK9 K9 qs q0
      try simp only [Act.put, List.setIfInBounds_toArray, List.set_cons_zero, List.set_cons_succ]
      generalize y1.heap.size = rk at *
      generalize hy2 : y1.alloc (.cells #[.slice none 0 0, .slice none 0 0, .int .i64 0, .int .i64 0, .int .i64 0, .int .i64 0] 78) = y2 at *
      have BR := x_blk (b := rk) (t := 78) (cs := #[.slice none 0 0, .slice none 0 0, .int .i64 0, .int .i64 0, .int .i64 0, .int .i64 0]) H9 (X.length + 4) (by simp)
      have cR0 := BR.cell 0
      have zR0 := BR.froz 0
      have cR1 := BR.cell 1
      have zR1 := BR.froz 1
      have cR2 := BR.cell 2
      have zR2 := BR.froz 2
      have cR3 := BR.cell 3
      have zR3 := BR.froz 3
      have cR4 := BR.cell 4
      have zR4 := BR.froz 4
      have cR5 := BR.cell 5
      have zR5 := BR.froz 5
      refine AnyK.one (i := 8) (by kernel_rfl) rfl (fun K9 hK9 => ?_)
      go_simp
      refine hK9.out _ _ (fun hx => absurd (by decide) hx) ?_
      clear hK9 K9
      try simp only [Act.put, List.setIfInBounds_toArray, List.set_cons_zero, List.set_cons_succ]
      refine AnyK.done (by kernel_rfl) ?_ _
      refine NoPanic.normal ?_
      have HS9 := H9.setX6 (v0 := .slice a2 cc.nodes.length c2) (v1 := .slice a3 cc.infos.length c3) (v2 := .int .i64 cc.keep) (v3 := .int .i64 cc.way) (v4 := .int .i64 cc.old) (v5 := .int .i64 cc.new) (b := rk) (t := 78) (u0 := .slice none 0 0) (u1 := .slice none 0 0) (u2 := .int .i64 0) (u3 := .int .i64 0) (u4 := .int .i64 0) (u5 := .int .i64 0) (X.length + 4) (by simp)
      rw [List.set_append_right _ _ (by omega)] at HS9
      simp only [Nat.add_sub_cancel_left] at HS9
      go_wp2_with fail
      go_meet
      exact ⟨rk, a2, c2, a3, c3, rfl, Lib.hid HS9⟩
    · go_simp
      have H8 := HH.out.alloc 78 #[.slice none 0 0, .slice none 0 0, .int .i64 0, .int .i64 0, .int .i64 0, .int .i64 0]
      rw [List.append_assoc, List.append_assoc] at H8
      have H8 : Heap w0 (z2.alloc (.cells #[.slice none 0 0, .slice none 0 0, .int .i64 0, .int .i64 0, .int .i64 0, .int .i64 0] 78)) (pl.F x.sh (T.of x) ++ (X ++ [tkP pl.tb c.wb b0 me, blkP b1 2 #[.int .i64 n], blkP z2.heap.size 78 #[.slice none 0 0, .slice none 0 0, .int .i64 0, .int .i64 0, .int .i64 0, .int .i64 0]])) := H8
      have qs := rec_cells (Y := [blkP z2.heap.size 78 #[.slice none 0 0, .slice none 0 0, .int .i64 0, .int .i64 0, .int .i64 0, .int .i64 0]]) wp H8
      refine hK9.out _ _ (fun _ => qs) ?_
      clear hK9 K9 qs
      try simp only [Act.put, List.setIfInBounds_toArray, List.set_cons_zero, List.set_cons_succ]
      generalize z2.heap.size = rk at *
      generalize hy2 : z2.alloc (.cells #[.slice none 0 0, .slice none 0 0, .int .i64 0, .int .i64 0, .int .i64 0, .int .i64 0] 78) = y2 at *
      refine AnyK.one (i := 6) (by kernel_rfl) rfl (fun K9 hK9 => ?_)
      go_simp
      refine (CLH.out _ _ H8).mono ?_
      rintro e y1 ⟨a2, c2, a3, c3, rfl, H9⟩
      have H9 : Heap w0 y1 ((pl.F x.sh (T.of x) ++ (X ++ [tkP pl.tb c.wb b0 me, blkP b1 2 #[.int .i64 n]])) ++ [blkP rk 78 #[.slice none 0 0, .slice none 0 0, .int .i64 0, .int .i64 0, .int .i64 0, .int .i64 0], rowP 29 1 (.slice a2 cc.nodes.length c2) cc.nodes.length (intC cc.nodes), rowP 2 1 (.slice a3 cc.infos.length c3) cc.infos.length (intC cc.infos)]) := by simpa [rcL, List.append_assoc] using H9
      have H9 := H9.swap12.swap23
      have H9 : Heap w0 y1 (pl.F x.sh (T.of x) ++ (X ++ [tkP pl.tb c.wb b0 me, blkP b1 2 #[.int .i64 n], rowP 29 1 (.slice a2 cc.nodes.length c2) cc.nodes.length (intC cc.nodes), rowP 2 1 (.slice a3 cc.infos.length c3) cc.infos.length (intC cc.infos), blkP rk 78 #[.slice none 0 0, .slice none 0 0, .int .i64 0, .int .i64 0, .int .i64 0, .int .i64 0]])) := by simpa [List.append_assoc] using H9
      refine hK9.out _ _ (fun hx => absurd (by decide) hx) ?_
      clear hK9 K9
      try simp only [Act.put, List.setIfInBounds_toArray, List.set_cons_zero, List.set_cons_succ]
      have BR := x_blk (b := rk) (t := 78) (cs := #[.slice none 0 0, .slice none 0 0, .int .i64 0, .int .i64 0, .int .i64 0, .int .i64 0]) H9 (X.length + 4) (by simp)
      have cR0 := BR.cell 0
      have zR0 := BR.froz 0
      have cR1 := BR.cell 1
      have zR1 := BR.froz 1
      have cR2 := BR.cell 2
      have zR2 := BR.froz 2
      have cR3 := BR.cell 3
      have zR3 := BR.froz 3
      have cR4 := BR.cell 4
      have zR4 := BR.froz 4
      have cR5 := BR.cell 5
      have zR5 := BR.froz 5
      refine AnyK.one (i := 8) (by kernel_rfl) rfl (fun K9 hK9 => ?_)
      go_simp
      refine hK9.out _ _ (fun hx => absurd (by decide) hx) ?_
      clear hK9 K9
      try simp only [Act.put, List.setIfInBounds_toArray, List.set_cons_zero, List.set_cons_succ]
      refine AnyK.done (by kernel_rfl) ?_ _
      refine NoPanic.normal ?_
      have HS9 := H9.setX6 (v0 := .slice a2 cc.nodes.length c2) (v1 := .slice a3 cc.infos.length c3) (v2 := .int .i64 cc.keep) (v3 := .int .i64 cc.way) (v4 := .int .i64 cc.old) (v5 := .int .i64 cc.new) (b := rk) (t := 78) (u0 := .slice none 0 0) (u1 := .slice none 0 0) (u2 := .int .i64 0) (u3 := .int .i64 0) (u4 := .int .i64 0) (u5 := .int .i64 0) (X.length + 4) (by simp)
      rw [List.set_append_right _ _ (by omega)] at HS9
      simp only [Nat.add_sub_cancel_left] at HS9
      go_wp2_with fail
      go_meet
      exact ⟨rk, a2, c2, a3, c3, rfl, Lib.hid HS9⟩
  case rest =>
    obtain ⟨rk, a2, c2, a3, c3, rfl, HH⟩ := hcut
    clear CLH q0
    have BR := x_blk (b := rk) (t := 78) (cs := #[.slice a2 cc.nodes.length c2, .slice a3 cc.infos.length c3, .int .i64 cc.keep, .int .i64 cc.way, .int .i64 cc.old, .int .i64 cc.new]) HH.out (X.length + 4) (by simp)
    have y0 : World.cell? _ ⟨rk, 0, none⟩ = some (.slice a2 cc.nodes.length c2) := BR.cell 0
    clear BR
    go_wp2_with fail
    go_loopw [20] (fun i wr => ∃ (k : Nat) (x1 : Tst Wd), i = .int .i64 (k : Nat) ∧ k ≤ cc.nodes.length ∧ Hid (((infosP n ((cc.nodes.zip cc.infos).drop k)).bind (moreP n cc)).run x1 = res) ∧ Hid (FitW N x1) ∧ Hid (Heap w0 wr (pl.F x1.sh (T.of x1) ++ (X ++ [tkP pl.tb c.wb b0 me, blkP b1 2 #[.int .i64 n], rowP 29 1 (.slice a2 cc.nodes.length c2) cc.nodes.length (intC cc.nodes), rowP 2 1 (.slice a3 cc.infos.length c3) cc.infos.length (intC cc.infos), blkP rk 78 #[.slice a2 cc.nodes.length c2, .slice a3 cc.infos.length c3, .int .i64 cc.keep, .int .i64 cc.way, .int .i64 cc.old, .int .i64 cc.new]])))) (fun i _ => cc.nodes.length - (intOf i).toNat)
    case atStart => exact ⟨0, x, rfl, Nat.zero_le _, HP, HF, HH⟩
    case round =>
      clear HH HP HF y0
      obtain ⟨k, x1, rfl, hk, HP, HF, HH⟩ := hrel
      by_cases hlt : k < cc.nodes.length
      · obtain ⟨r, hr⟩ : ∃ r, cc.nodes[k]? = some r := ⟨_, List.getElem?_eq_getElem hlt⟩
        obtain ⟨i1, hi1⟩ : ∃ r, cc.infos[k]? = some r := ⟨_, List.getElem?_eq_getElem (by omega : k < cc.infos.length)⟩
        have hd : (cc.nodes.zip cc.infos).drop k = (r, i1) :: (cc.nodes.zip cc.infos).drop (k + 1) := by
          rw [List.drop_eq_getElem_cons (by simp; omega)]
          congr 1
          rw [List.getElem_zip, (List.getElem?_eq_some_iff.1 hr).2, (List.getElem?_eq_some_iff.1 hi1).2]
        have hP := HP.out
        rw [hd] at hP
        have hP : (Wk.ask (aSwapInfo r i1 n) (fun a => (inf1 n r (infosP n ((cc.nodes.zip cc.infos).drop (k + 1))) a).bind (moreP n cc))).run x1 = res := hP
        obtain ⟨a1, ea, hc1, hat1⟩ := (HH.out.row ((pl.F x1.sh (T.of x1)).length + (X.length + 2)) (t := 29) (sz := 1) (n := cc.nodes.length) (v := (.slice a2 cc.nodes.length c2)) (us := intC cc.nodes) (by simp)).rdv.at (by omega)
        subst ea
        have y1 := hat1 k (.int .i64 r) (by simp [intC, hr])
        clear hat1 hd HP
        go_upto_region 5 with fail
        have HB := (HH.out.alloc 3 #[.int .i64 (k : Nat)]).alloc 29 #[.int .i64 r]
        rw [show (wr.alloc (.cells #[.int .i64 (k : Nat)] 3)).heap.size = wr.heap.size + 1 from by simp, List.append_assoc, List.append_assoc] at HB
        generalize hg0 : wr.heap.size = g0 at *
        generalize hg1 : g0 + 1 = g1 at *
        generalize hz3 : (wr.alloc (.cells #[.int .i64 (k : Nat)] 3)).alloc (.cells #[.int .i64 r] 29) = z3 at *
        have HB : Heap w0 z3 (pl.F x1.sh (T.of x1) ++ ((X ++ [tkP pl.tb c.wb b0 me, blkP b1 2 #[.int .i64 n], rowP 29 1 (.slice (some a1) cc.nodes.length c2) cc.nodes.length (intC cc.nodes), rowP 2 1 (.slice a3 cc.infos.length c3) cc.infos.length (intC cc.infos), blkP rk 78 #[.slice (some a1) cc.nodes.length c2, .slice a3 cc.infos.length c3, .int .i64 cc.keep, .int .i64 cc.way, .int .i64 cc.old, .int .i64 cc.new]]) ++ [blkP g0 3 #[.int .i64 (k : Nat)], blkP g1 29 #[.int .i64 r]])) := HB
        have C1 := Ask_wd HB hin HF.out 95 #[] #[.pointer (some ⟨b0, 0, none⟩), .pointer (some ⟨g1, 0, none⟩), .pointer (some ⟨rk, 0, none⟩), .pointer (some ⟨g0, 0, none⟩), .pointer (some ⟨b1, 0, none⟩)] hswap_enters (swapInfoAr r i1 n x1.sh.ar).1 (aSwapInfo r i1 n x1.sh).2 (aSwapInfo r i1 n) rfl (fun Y T z ok _ hz => swapInfo_touch (me := me) (vn := .slice (some a1) cc.nodes.length c2) (vi := .slice a3 cc.infos.length c3) (u2 := .int .i64 cc.keep) (u3 := .int .i64 cc.way) (u4 := .int .i64 cc.old) (u5 := .int .i64 cc.new) wp hz X.length (by simp [tkP]) (X.length + 6) r (by simp) (X.length + 4) (by simp) (X.length + 5) k (by simp) (X.length + 1) n (by simp) cc.infos i1 hi1 (by omega) (fun z L hz => (hz.row (L.length + (X.length + 3)) (t := 2) (sz := 1) (n := cc.infos.length) (v := (.slice a3 cc.infos.length c3)) (us := intC cc.infos) (by simp)).rdv) ok (by omega))
        have hq0 := tk_cells (tk := b0) (me := me) (tb := pl.tb) (wb := c.wb) HB X.length (by simp [tkP])
        have k0 := hq0.1
        clear hq0
        rcases ha1 : askT (aSwapInfo r i1 n) x1 with ⟨q, x2⟩
        rw [ha1] at C1
        have C1 := Lib.hid C1
        cases q with
        | none =>
          have HP : Hid ((.wait, _) = res) := Lib.hid ((Wk.run_none (k := (fun a => (inf1 n r (infosP n ((cc.nodes.zip cc.infos).drop (k + 1))) a).bind (moreP n cc))) ha1).symm.trans hP)
          clear hP HB
          go_wp2_with fail
          refine C1.out.mono ?_
          rintro e w' ⟨rfl, H⟩
          change bodyPost Try.prog Try.f90 _ (Exit.panic [waitE]) _ _
          rw [← HP.out]
          exact ⟨rfl, rfl, H.dropX.dropX⟩
        | some q =>
          have hP2 := (Wk.run_some (k := (fun a => (inf1 n r (infosP n ((cc.nodes.zip cc.infos).drop (k + 1))) a).bind (moreP n cc))) ha1).symm.trans hP
          have HF2 := Lib.hid (HF.out.ask (good_swapInfo r i1 n) ha1)
          clear hP HB HF HH
          by_cases hq1 : q = 1
          · have hb : (q == 1) = true := by simpa using hq1
            rw [inf1, if_pos hq1] at hP2
            have HP2 := Lib.hid hP2
            clear hP2
            go_wp2_with fail
            refine C1.out.mono ?_
            rintro e w' ⟨rfl, H⟩
            have HX := Lib.hid H.dropX
            clear H C1 y1 k0
            go_wp2_with fail
            exact ⟨⟨k + 1, x2, by go_num, by omega, HP2, HF2, HX⟩, by simp [intOf]; omega⟩
          · have hb : (q == 1) = false := by simpa using hq1
            rw [inf1, if_neg hq1] at hP2
            have hP2 : (Wk.ask (aInfo r) (fun b => (inf2 n (infosP n ((cc.nodes.zip cc.infos).drop (k + 1))) b).bind (moreP n cc))).run x2 = res := hP2
            rcases ha2 : askT (aInfo r) x2 with ⟨q2, x3⟩
            have CD : ∀ z, Heap w0 z (pl.F x2.sh (T.of x2) ++ ((X ++ [tkP pl.tb c.wb b0 me, blkP b1 2 #[.int .i64 n], rowP 29 1 (.slice (some a1) cc.nodes.length c2) cc.nodes.length (intC cc.nodes), rowP 2 1 (.slice a3 cc.infos.length c3) cc.infos.length (intC cc.infos), blkP rk 78 #[.slice (some a1) cc.nodes.length c2, .slice a3 cc.infos.length c3, .int .i64 cc.keep, .int .i64 cc.way, .int .i64 cc.old, .int .i64 cc.new]]) ++ [blkP g0 3 #[.int .i64 (k : Nat)], blkP g1 29 #[.int .i64 r]])) → Calls Try.prog 69 #[.pointer (some ⟨pl.tb, 0, none⟩), .func (.func 96) #[] #[.pointer (some ⟨b0, 0, none⟩), .pointer (some ⟨g1, 0, none⟩)]] z (DoP pl w0 ((X ++ [tkP pl.tb c.wb b0 me, blkP b1 2 #[.int .i64 n], rowP 29 1 (.slice (some a1) cc.nodes.length c2) cc.nodes.length (intC cc.nodes), rowP 2 1 (.slice a3 cc.infos.length c3) cc.infos.length (intC cc.infos), blkP rk 78 #[.slice (some a1) cc.nodes.length c2, .slice a3 cc.infos.length c3, .int .i64 cc.keep, .int .i64 cc.way, .int .i64 cc.old, .int .i64 cc.new]]) ++ [blkP g0 3 #[.int .i64 (k : Nat)], blkP g1 29 #[.int .i64 r]]) T (q2, x3)) := fun z hz => by
              rw [← ha2]
              exact Do_wd hz hin HF2.out 96 #[] #[.pointer (some ⟨b0, 0, none⟩), .pointer (some ⟨g1, 0, none⟩)] hinfo_enters (aInfo r) (fun T z ok _ hz => info_touch (me := me) wp hz X.length (by simp [tkP]) (X.length + 6) r (by simp) ok (by omega))
            have CD := Lib.hid CD
            cases q2 with
            | none =>
              have HP : Hid ((.wait, _) = res) := Lib.hid ((Wk.run_none (k := (fun b => (inf2 n (infosP n ((cc.nodes.zip cc.infos).drop (k + 1))) b).bind (moreP n cc))) ha2).symm.trans hP2)
              clear hP2
              go_wp2_with fail
              refine C1.out.mono ?_
              rintro e y2 ⟨rfl, H2⟩
              have C2 := Lib.hid (CD.out _ H2.drew)
              have qk := tk_cells (tk := b0) (me := me) (tb := pl.tb) (wb := c.wb) H2.drew X.length (by simp [tkP])
              have qb := x_blk (b := b1) (t := 2) (cs := #[.int .i64 n]) H2.drew (X.length + 1) (by simp)
              have q6 := And.intro qk.1 (qb.cell 0)
              clear qk qb
              clear C1 CD y1 k0 H2
              go_upto_region 6 with fail
              refine AnyK.start (ks := [5]) (S := fun w' => w'.cell? ⟨b0, 0, none⟩ = some (.pointer (some ⟨pl.tb, 0, none⟩)) ∧ w'.cell? ⟨b1, 0, none⟩ = some (.int .i64 n)) (by kernel_rfl) (by exact q6) (fun _ => ?_)
              refine AnyK.takeB (i := 0) (v := ?_) rfl (by kernel_rfl) (by kernel_rfl) (by kernel_rfl) (by kernel_rfl) (fun _ _ _ h => h) (Or.inl ⟨by rfl, ?_⟩) (by exact q6) ?_
              rotate_left
              focus
                intro w9 hSw
                try dsimp only at hSw
                go_simp
                try with_reducible rfl
              try simp only [Act.put, List.setIfInBounds_toArray, List.set_cons_zero, List.set_cons_succ]
              refine AnyK.takeB (i := 1) (v := ?_) rfl (by kernel_rfl) (by kernel_rfl) (by kernel_rfl) (by kernel_rfl) (fun _ _ _ h => h) (Or.inl ⟨by rfl, ?_⟩) (by exact q6) ?_
              rotate_left
              focus
                intro w9 hSw
                try dsimp only at hSw
                go_simp
                try with_reducible rfl
              try simp only [Act.put, List.setIfInBounds_toArray, List.set_cons_zero, List.set_cons_succ]
              refine AnyK.takeB (i := 2) (v := ?_) rfl (by kernel_rfl) (by kernel_rfl) (by kernel_rfl) (by kernel_rfl) (fun _ _ _ h => h) (Or.inl ⟨by rfl, ?_⟩) (by exact q6) ?_
              rotate_left
              focus
                intro w9 hSw
                try dsimp only at hSw
                go_simp
                try with_reducible rfl
              try simp only [Act.put, List.setIfInBounds_toArray, List.set_cons_zero, List.set_cons_succ]
              refine AnyK.takeB (i := 4) (v := ?_) rfl (by kernel_rfl) (by kernel_rfl) (by kernel_rfl) (by kernel_rfl) (fun _ _ _ h => h) (Or.inl ⟨by rfl, ?_⟩) (by exact q6) ?_
              rotate_left
              focus
                intro w9 hSw
                try dsimp only at hSw
                go_simp
                try with_reducible rfl
              try simp only [Act.put, List.setIfInBounds_toArray, List.set_cons_zero, List.set_cons_succ]
              refine AnyK.one (i := 3) (by kernel_rfl) rfl (fun K9 hK9 => ?_)
              go_simp
              refine C2.out.mono ?_
              rintro e y3 ⟨rfl, H⟩
              change bodyPost Try.prog Try.f90 _ (Exit.panic [waitE]) _ _
              rw [← HP.out]
              exact ⟨rfl, rfl, H.dropX.dropX⟩
            | some q2 =>
              have hP3 := (Wk.run_some (k := (fun b => (inf2 n (infosP n ((cc.nodes.zip cc.infos).drop (k + 1))) b).bind (moreP n cc))) ha2).symm.trans hP2
              have HF3 := Lib.hid (HF2.out.ask (good_info r) ha2)
              clear hP2
              go_wp2_with fail
              refine C1.out.mono ?_
              rintro e y2 ⟨rfl, H2⟩
              have C2 := Lib.hid (CD.out _ H2.drew)
              have qk := tk_cells (tk := b0) (me := me) (tb := pl.tb) (wb := c.wb) H2.drew X.length (by simp [tkP])
              have qb := x_blk (b := b1) (t := 2) (cs := #[.int .i64 n]) H2.drew (X.length + 1) (by simp)
              have q6 := And.intro qk.1 (qb.cell 0)
              clear qk qb
              clear C1 CD y1 k0 H2 HF2
              go_upto_region 6 with fail
              go_cut [34] (fun s34 wx => s34 = .bool (q2 == n) ∧ Hid (Heap w0 wx (pl.F x3.sh (T.of x3) ++ ((X ++ [tkP pl.tb c.wb b0 me, blkP b1 2 #[.int .i64 n], rowP 29 1 (.slice (some a1) cc.nodes.length c2) cc.nodes.length (intC cc.nodes), rowP 2 1 (.slice a3 cc.infos.length c3) cc.infos.length (intC cc.infos), blkP rk 78 #[.slice (some a1) cc.nodes.length c2, .slice a3 cc.infos.length c3, .int .i64 cc.keep, .int .i64 cc.way, .int .i64 cc.old, .int .i64 cc.new]]) ++ [blkP g0 3 #[.int .i64 (k : Nat)], blkP g1 29 #[.int .i64 r]]))))
              case first =>
                clear hP3 HF3
                refine wp_region_noPanic ?_
                refine AnyK.start (ks := [5]) (S := fun w' => w'.cell? ⟨b0, 0, none⟩ = some (.pointer (some ⟨pl.tb, 0, none⟩)) ∧ w'.cell? ⟨b1, 0, none⟩ = some (.int .i64 n)) (by kernel_rfl) (by exact q6) (fun _ => ?_)
                refine AnyK.takeB (i := 0) (v := ?_) rfl (by kernel_rfl) (by kernel_rfl) (by kernel_rfl) (by kernel_rfl) (fun _ _ _ h => h) (Or.inl ⟨by rfl, ?_⟩) (by exact q6) ?_
                rotate_left
                focus
                  intro w9 hSw
                  try dsimp only at hSw
                  go_simp
                  try with_reducible rfl
                try simp only [Act.put, List.setIfInBounds_toArray, List.set_cons_zero, List.set_cons_succ]
                refine AnyK.takeB (i := 1) (v := ?_) rfl (by kernel_rfl) (by kernel_rfl) (by kernel_rfl) (by kernel_rfl) (fun _ _ _ h => h) (Or.inl ⟨by rfl, ?_⟩) (by exact q6) ?_
                rotate_left
                focus
                  intro w9 hSw
                  try dsimp only at hSw
                  go_simp
                  try with_reducible rfl
                try simp only [Act.put, List.setIfInBounds_toArray, List.set_cons_zero, List.set_cons_succ]
                refine AnyK.takeB (i := 2) (v := ?_) rfl (by kernel_rfl) (by kernel_rfl) (by kernel_rfl) (by kernel_rfl) (fun _ _ _ h => h) (Or.inl ⟨by rfl, ?_⟩) (by exact q6) ?_
                rotate_left
                focus
                  intro w9 hSw
                  try dsimp only at hSw
                  go_simp
                  try with_reducible rfl
                try simp only [Act.put, List.setIfInBounds_toArray, List.set_cons_zero, List.set_cons_succ]
                refine AnyK.takeB (i := 4) (v := ?_) rfl (by kernel_rfl) (by kernel_rfl) (by kernel_rfl) (by kernel_rfl) (fun _ _ _ h => h) (Or.inl ⟨by rfl, ?_⟩) (by exact q6) ?_
                rotate_left
                focus
                  intro w9 hSw
                  try dsimp only at hSw
                  go_simp
                  try with_reducible rfl
                try simp only [Act.put, List.setIfInBounds_toArray, List.set_cons_zero, List.set_cons_succ]
                refine AnyK.one (i := 3) (by kernel_rfl) rfl (fun K9 hK9 => ?_)
                go_simp
                refine C2.out.mono ?_
                rintro e y3 ⟨rfl, H⟩
                have qk := tk_cells (tk := b0) (me := me) (tb := pl.tb) (wb := c.wb) H X.length (by simp [tkP])
                have qb := x_blk (b := b1) (t := 2) (cs := #[.int .i64 n]) H (X.length + 1) (by simp)
                have qs := And.intro qk.1 (qb.cell 0)
                clear qk qb
                refine hK9.out _ _ (fun _ => qs) ?_
                clear hK9 K9
                try simp only [Act.put, List.setIfInBounds_toArray, List.set_cons_zero, List.set_cons_succ]
                refine AnyK.one (i := 5) (by kernel_rfl) rfl (fun K9 hK9 => ?_)
                go_simp
                refine hK9.out _ _ (fun hx => absurd (by decide) hx) ?_
                clear hK9 K9
                try simp only [Act.put, List.setIfInBounds_toArray, List.set_cons_zero, List.set_cons_succ]
                refine AnyK.done (by kernel_rfl) ?_ _
                refine NoPanic.normal ?_
                go_wp2_with fail
                go_meet
                exact ⟨rfl, Lib.hid H⟩
              case rest =>
                obtain ⟨rfl, HH⟩ := hcut
                clear C2 q6
                by_cases hq2 : q2 = n
                · have hb2 : (q2 == n) = true := by simpa using hq2
                  rw [inf2, if_pos hq2] at hP3
                  have HP3 := Lib.hid hP3
                  have HX := Lib.hid HH.out.dropX
                  clear hP3 HH
                  go_wp2_with fail
                  exact ⟨⟨k + 1, x3, by go_num, by omega, HP3, HF3, HX⟩, by simp [intOf]; omega⟩
                · have hb2 : (q2 == n) = false := by simpa using hq2
                  rw [inf2, if_neg hq2] at hP3
                  have hP3 : (Wk.ask (aAll n) (fun d => (inf3 n d).bind (moreP n cc))).run x3 = res := hP3
                  have C3 := Ask_wd HH.out hin HF3.out 97 #[] #[.pointer (some ⟨b0, 0, none⟩), .pointer (some ⟨b1, 0, none⟩)] hall_enters (allRt n x3.sh.rt) (aAll n x3.sh).2 (aAll n) rfl (fun Y T z ok _ hz => all_touch (me := me) wp hz X.length (by simp [tkP]) (X.length + 1) n (by simp))
                  have hq0 := tk_cells (tk := b0) (me := me) (tb := pl.tb) (wb := c.wb) HH.out X.length (by simp [tkP])
                  have k0 := hq0.1
                  clear hq0
                  rcases ha3 : askT (aAll n) x3 with ⟨q3, x4⟩
                  rw [ha3] at C3
                  have C3 := Lib.hid C3
                  clear HH
                  cases q3 with
                  | none =>
                    have HP : Hid ((.wait, _) = res) := Lib.hid ((Wk.run_none (k := (fun d => (inf3 n d).bind (moreP n cc))) ha3).symm.trans hP3)
                    clear hP3
                    go_wp2_with fail
                    refine C3.out.mono ?_
                    rintro e w' ⟨rfl, H⟩
                    change bodyPost Try.prog Try.f90 _ (Exit.panic [waitE]) _ _
                    rw [← HP.out]
                    exact ⟨rfl, rfl, H.dropX.dropX⟩
                  | some q3 =>
                    have hP4 := (Wk.run_some (k := (fun d => (inf3 n d).bind (moreP n cc))) ha3).symm.trans hP3
                    have HF4 := Lib.hid (HF3.out.ask (good_all n) ha3)
                    clear hP3 HF3
                    by_cases hq3 : q3 = 1
                    · have hb3 : (q3 == 1) = true := by simpa using hq3
                      rw [inf3, if_pos hq3] at hP4
                      have HP : Hid ((.done true, x4) = res) := Lib.hid hP4
                      clear hP4
                      go_wp2_with fail
                      refine C3.out.mono ?_
                      rintro e w' ⟨rfl, H⟩
                      have HX := Lib.hid H.dropX.dropX
                      clear H C3 k0
                      go_wp2_with fail
                      go_ret
                      rw [← HP.out]
                      exact ⟨_, [], rfl, ⟨rfl, rfl⟩, HF4.out, by rw [List.append_nil]; exact HX.out⟩
                    · have hb3 : (q3 == 1) = false := by simpa using hq3
                      rw [inf3, if_neg hq3] at hP4
                      have hP4 : (Wk.ask (aSet n 0) (fun _ => (Wk.ret (some false)).bind (moreP n cc))).run x4 = res := hP4
                      go_wp2_with fail
                      refine C3.out.mono ?_
                      rintro e y4 ⟨rfl, H4⟩
                      have C4 := Set_task (me := me) wp H4 hin HF4.out n 0
                      obtain ⟨k0, k1, k2⟩ := tk_cells (tk := b0) (me := me) (tb := pl.tb) (wb := c.wb) H4 X.length (by simp [tkP])
                      have kb := (x_blk (b := b1) (t := 2) (cs := #[.int .i64 n]) H4 (X.length + 1) (by simp)).cell 0
                      unfold tkV setP at C4
                      rcases ha4 : askT (aSet n 0) x4 with ⟨q4, x5⟩
                      clear C3 H4
                      cases q4 with
                      | none =>
                        have HP : Hid ((.wait, _) = res) := Lib.hid ((Wk.run_none (k := (fun _ => (Wk.ret (some false)).bind (moreP n cc))) ha4).symm.trans hP4)
                        rw [Wk.run_none ha4] at C4
                        have C4 := Lib.hid C4
                        clear hP4
                        go_wp2_with fail
                        refine C4.out.mono ?_
                        rintro e w' ⟨rfl, H⟩
                        change bodyPost Try.prog Try.f90 _ (Exit.panic [waitE]) _ _
                        rw [← HP.out]
                        exact ⟨rfl, rfl, H.dropX.dropX⟩
                      | some q4 =>
                        have hP5 := (Wk.run_some (k := (fun _ => (Wk.ret (some false)).bind (moreP n cc))) ha4).symm.trans hP4
                        have HP : Hid ((.done false, x5) = res) := Lib.hid hP5
                        rw [Wk.run_some ha4] at C4
                        have HF5 := Lib.hid (HF4.out.ask (good_set n 0) ha4)
                        have C4 := Lib.hid C4
                        clear hP4 hP5
                        go_wp2_with fail
                        refine C4.out.mono ?_
                        rintro e w' ⟨val, Y, rfl, ⟨rfl, rfl⟩, _, H⟩
                        rw [List.append_nil] at H
                        have HX := Lib.hid H.dropX.dropX
                        clear H C4 k0 k1 k2 kb
                        go_wp2_with fail
                        go_ret
                        rw [← HP.out]
                        exact ⟨_, [], rfl, ⟨rfl, rfl⟩, HF5.out, by rw [List.append_nil]; exact HX.out⟩
      · have hd : (cc.nodes.zip cc.infos).drop k = [] := List.drop_eq_nil_of_le (by simp; omega)
        have hP := HP.out
        rw [hd] at hP
        have hP : (Wk.ask (aSetAll n) (fun _ => (marksP (keepL cc)).bind fun _ => (firstP cc).bind fun _ => .ask (aSet n 2) fun _ => .ret true)).run x1 = res := hP
        have C1 := Do_wd HH.out hin HF.out 99 #[] #[.pointer (some ⟨b0, 0, none⟩), .pointer (some ⟨b1, 0, none⟩)] hsetAll_enters (aSetAll n) (fun T z _ _ hz => setAll_touch (me := me) wp hz X.length (by simp [tkP]) (X.length + 1) n (by simp))
        have hq0 := tk_cells (tk := b0) (me := me) (tb := pl.tb) (wb := c.wb) HH.out X.length (by simp [tkP])
        have k0 := hq0.1
        clear hq0 hd HP HH
        rcases ha1 : askT (aSetAll n) x1 with ⟨q, x2⟩
        rw [ha1] at C1
        have C1 := Lib.hid C1
        cases q with
        | none =>
          have HP : Hid ((.wait, _) = res) := Lib.hid ((Wk.run_none (k := (fun _ => (marksP (keepL cc)).bind fun _ => (firstP cc).bind fun _ => .ask (aSet n 2) fun _ => .ret true)) ha1).symm.trans hP)
          clear hP
          go_wp2_with fail
          refine C1.out.mono ?_
          rintro e w' ⟨rfl, H⟩
          change bodyPost Try.prog Try.f90 _ (Exit.panic [waitE]) _ _
          rw [← HP.out]
          exact ⟨rfl, rfl, H.dropX⟩
        | some q =>
          have hP2 := (Wk.run_some (k := (fun _ => (marksP (keepL cc)).bind fun _ => (firstP cc).bind fun _ => .ask (aSet n 2) fun _ => .ret true)) ha1).symm.trans hP
          have HP2 := Lib.hid hP2
          have HF2 := Lib.hid (HF.out.ask (good_setAll n) ha1)
          clear hP hP2 HF
          go_wp2_with fail
          refine C1.out.mono ?_
          rintro e y2 ⟨rfl, H⟩
          have BR := x_blk (b := rk) (t := 78) (cs := #[.slice a2 cc.nodes.length c2, .slice a3 cc.infos.length c3, .int .i64 cc.keep, .int .i64 cc.way, .int .i64 cc.old, .int .i64 cc.new]) H (X.length + 4) (by simp)
          have y0 : World.cell? _ ⟨rk, 0, none⟩ = some (.slice a2 cc.nodes.length c2) := BR.cell 0
          have y1 : World.cell? _ ⟨rk, 2, none⟩ = some (.int .i64 cc.keep) := BR.cell 2
          have HX := Lib.hid H
          clear H BR C1 k0
          obtain ⟨m, hm, hm2⟩ : ∃ m : Nat, min cc.keep (cc.nodes.length : Int) = (m : Int) ∧ m ≤ cc.nodes.length := ⟨(min cc.keep (cc.nodes.length : Int)).toNat, by omega, by omega⟩
          have hL : keepL cc = cc.nodes.drop m := by unfold keepL; rw [hm, Int.toNat_natCast]
          go_upto_region 13 with fail
          go_cut [55, 56, 57] (fun s55 s56 s57 wx => ∃ (v : Option Addr) (cp : Nat), s55 = .slice v (cc.nodes.length - m) cp ∧ s56 = .int .i64 ((cc.nodes.length - m : Nat) : Int) ∧ s57 = .int .i64 0 ∧ wx = y2 ∧ (cc.nodes.length - m = 0 ∨ ∃ a1 v1, a2 = some a1 ∧ v = some v1 ∧ ∀ j, v1.add j = a1.add (m + j)))
          case first =>
            clear HP2 HF2 hL
            have hA : 0 < cc.nodes.length → ∃ a1, a2 = some a1 := fun h0 => by
              obtain ⟨a1, ea, _⟩ := (HX.out.row ((pl.F x2.sh (T.of x2)).length + (X.length + 2)) (t := 29) (sz := 1) (n := cc.nodes.length) (v := (.slice a2 cc.nodes.length c2)) (us := intC cc.nodes) (by simp)).rdv.at (by omega)
              exact ⟨a1, by simpa using ea⟩
            have hle : cc.nodes.length ≤ c2 := by
              obtain ⟨_, _, e, hle, _⟩ := (HX.out.row ((pl.F x2.sh (T.of x2)).length + (X.length + 2)) (t := 29) (sz := 1) (n := cc.nodes.length) (v := (.slice a2 cc.nodes.length c2)) (us := intC cc.nodes) (by simp)).form
              simp at e; omega
            clear HX
            rcases (by omega : cc.keep ≤ (cc.nodes.length : Int) ∨ (cc.nodes.length : Int) < cc.keep) with hkc | hkc
            · have hkm : cc.keep = (m : Int) := by omega
              rw [hkm] at y1 hkc
              clear hm hkm hg1
              go_wp2_with fail
              · subst h
                go_meet
                exact ⟨_, _, rfl, rfl, rfl, rfl, Or.inl (by have := hle; omega)⟩
              · go_meet
                refine ⟨_, _, rfl, rfl, rfl, rfl, ?_⟩
                by_cases h0 : 0 < cc.nodes.length
                · obtain ⟨a1, rfl⟩ := hA h0
                  exact Or.inr ⟨a1, _, rfl, rfl, fun j => Go.Deep.add_add _ _ _⟩
                · exact Or.inl (by omega)
            · have hkm : m = cc.nodes.length := by omega
              subst hkm
              clear hm
              go_wp2_with fail
              all_goals (try subst h)
              all_goals (go_meet; exact ⟨_, _, by rw [Nat.sub_self], by rw [Nat.sub_self]; rfl, rfl, rfl, Or.inl (Nat.sub_self _)⟩)
          case rest =>
            obtain ⟨v, cp, rfl, rfl, rfl, rfl, hV⟩ := hcut
            have HPM : Hid (((marksP ((cc.nodes.drop m).drop 0)).bind (fun _ => (firstP cc).bind fun _ => .ask (aSet n 2) fun _ => .ret true)).run x2 = res) := Lib.hid (by rw [List.drop_zero, ← hL]; exact HP2.out)
            clear y0 y1 HP2 hm hL
            go_wp2_with fail
            go_loopw [57] (fun i wr => ∃ (j : Nat) (x3 : Tst Wd), i = .int .i64 (j : Nat) ∧ j ≤ cc.nodes.length - m ∧ Hid (((marksP ((cc.nodes.drop m).drop j)).bind (fun _ => (firstP cc).bind fun _ => .ask (aSet n 2) fun _ => .ret true)).run x3 = res) ∧ Hid (FitW N x3) ∧ Hid (Heap w0 wr (pl.F x3.sh (T.of x3) ++ (X ++ [tkP pl.tb c.wb b0 me, blkP b1 2 #[.int .i64 n], rowP 29 1 (.slice a2 cc.nodes.length c2) cc.nodes.length (intC cc.nodes), rowP 2 1 (.slice a3 cc.infos.length c3) cc.infos.length (intC cc.infos), blkP rk 78 #[.slice a2 cc.nodes.length c2, .slice a3 cc.infos.length c3, .int .i64 cc.keep, .int .i64 cc.way, .int .i64 cc.old, .int .i64 cc.new]])))) (fun i _ => (cc.nodes.length - m) - (intOf i).toNat)
            case atStart => exact ⟨0, x2, rfl, Nat.zero_le _, HPM, HF2, HX⟩
            case round =>
              clear HX HF2 HPM
              obtain ⟨j, x3, rfl, hj, HP, HF, HH⟩ := hrel
              by_cases hlt2 : j < cc.nodes.length - m
              · obtain ⟨a1, v1, ea2, ev, hadd⟩ := hV.resolve_left (by omega)
                subst ea2 ev
                obtain ⟨r, hr⟩ : ∃ r, cc.nodes[m + j]? = some r := ⟨_, List.getElem?_eq_getElem (by omega)⟩
                have hd : (cc.nodes.drop m).drop j = r :: (cc.nodes.drop m).drop (j + 1) := by
                  rw [List.drop_eq_getElem_cons (by simp; omega)]
                  congr 1
                  rw [List.getElem_drop]
                  exact (List.getElem?_eq_some_iff.1 hr).2
                have hP := HP.out
                rw [hd] at hP
                have hP : (Wk.ask (aSetMark r) (fun _ => (marksP ((cc.nodes.drop m).drop (j + 1))).bind fun _ => (firstP cc).bind fun _ => .ask (aSet n 2) fun _ => .ret true)).run x3 = res := hP
                obtain ⟨a9, ea, hc1, hat1⟩ := (HH.out.row ((pl.F x3.sh (T.of x3)).length + (X.length + 2)) (t := 29) (sz := 1) (n := cc.nodes.length) (v := (.slice (some a1) cc.nodes.length c2)) (us := intC cc.nodes) (by simp)).rdv.at (by omega)
                have ea : a1 = a9 := by simpa using ea
                subst ea
                have y1 := hat1 (m + j) (.int .i64 r) (by simp [intC, hr])
                rw [← hadd] at y1
                clear hat1 hd HP hadd hV
                go_upto_region 16 with fail
                have HB := HH.out.alloc 29 #[.int .i64 r]
                rw [List.append_assoc] at HB
                generalize hg0 : wr.heap.size = g0 at *
                generalize hz3 : wr.alloc (.cells #[.int .i64 r] 29) = z3 at *
                have C1 := Do_wd HB hin HF.out 100 #[] #[.pointer (some ⟨b0, 0, none⟩), .pointer (some ⟨g0, 0, none⟩)] hmark_enters (aSetMark r) (fun T z ok _ hz => setMark_touch (me := me) wp hz X.length (by simp [tkP]) (X.length + 5) r (by simp) ok (by omega))
                have hq0 := tk_cells (tk := b0) (me := me) (tb := pl.tb) (wb := c.wb) HB X.length (by simp [tkP])
                have k0 := hq0.1
                clear hq0
                rcases ha1 : askT (aSetMark r) x3 with ⟨q, x4⟩
                rw [ha1] at C1
                have C1 := Lib.hid C1
                clear HB HH
                cases q with
                | none =>
                  have HP : Hid ((.wait, _) = res) := Lib.hid ((Wk.run_none (k := (fun _ => (marksP ((cc.nodes.drop m).drop (j + 1))).bind fun _ => (firstP cc).bind fun _ => .ask (aSet n 2) fun _ => .ret true)) ha1).symm.trans hP)
                  clear hP
                  go_wp2_with fail
                  refine C1.out.mono ?_
                  rintro e w' ⟨rfl, H⟩
                  change bodyPost Try.prog Try.f90 _ (Exit.panic [waitE]) _ _
                  rw [← HP.out]
                  exact ⟨rfl, rfl, H.dropX.dropX⟩
                | some q =>
                  have hP2 := (Wk.run_some (k := (fun _ => (marksP ((cc.nodes.drop m).drop (j + 1))).bind fun _ => (firstP cc).bind fun _ => .ask (aSet n 2) fun _ => .ret true)) ha1).symm.trans hP
                  have HP2 := Lib.hid hP2
                  have HF2 := Lib.hid (HF.out.ask (good_setMark r) ha1)
                  clear hP hP2
                  go_wp2_with fail
                  refine C1.out.mono ?_
                  rintro e w' ⟨rfl, H⟩
                  have HX := Lib.hid H.dropX
                  clear H C1 y1 k0
                  go_wp2_with fail
                  exact ⟨⟨j + 1, x4, by go_num, by omega, HP2, HF2, HX⟩, by simp [intOf]; omega⟩
              · have hd : (cc.nodes.drop m).drop j = [] := List.drop_eq_nil_of_le (by simp; omega)
                have hP := HP.out
                rw [hd] at hP
                have hP : ((firstP cc).bind (fun _ => .ask (aSet n 2) fun _ => .ret true)).run x3 = res := hP
                have BR := x_blk (b := rk) (t := 78) (cs := #[.slice a2 cc.nodes.length c2, .slice a3 cc.infos.length c3, .int .i64 cc.keep, .int .i64 cc.way, .int .i64 cc.old, .int .i64 cc.new]) HH.out (X.length + 4) (by simp)
                have y0 : World.cell? _ ⟨rk, 0, none⟩ = some (.slice a2 cc.nodes.length c2) := BR.cell 0
                have hq0 := tk_cells (tk := b0) (me := me) (tb := pl.tb) (wb := c.wb) HH.out X.length (by simp [tkP])
                have k0 := hq0.1
                clear BR hd HP hq0
                by_cases hn0 : 0 < cc.nodes.length
                · obtain ⟨r, hr⟩ : ∃ r, cc.nodes[0]? = some r := ⟨_, List.getElem?_eq_getElem hn0⟩
                  have hF : firstP cc = .ask (aSwapWay r cc.way cc.old cc.new) fun _ => .ret () := by
                    unfold firstP
                    cases hcn : cc.nodes with
                    | nil => rw [hcn] at hr; simp at hr
                    | cons r' l => rw [hcn] at hr; simp at hr; subst hr; rfl
                  rw [hF] at hP
                  have hP : (Wk.ask (aSwapWay r cc.way cc.old cc.new) (fun _ => (Wk.ret ()).bind fun _ => .ask (aSet n 2) fun _ => .ret true)).run x3 = res := hP
                  have C1 := Ask_wd HH.out hin HF.out 102 #[] #[.pointer (some ⟨b0, 0, none⟩), .pointer (some ⟨rk, 0, none⟩)] hway_enters (swapWayAr r cc.way cc.old cc.new x3.sh.ar).1 (aSwapWay r cc.way cc.old cc.new x3.sh).2 (aSwapWay r cc.way cc.old cc.new) rfl (fun Y T z ok _ hz => swapWay_touch (me := me) (vn := (.slice a2 cc.nodes.length c2)) (vi := (.slice a3 cc.infos.length c3)) wp hz X.length (by simp [tkP]) (X.length + 4) cc (by simp) r hr (by omega) (fun z L hz => (hz.row (L.length + (X.length + 2)) (t := 29) (sz := 1) (n := cc.nodes.length) (v := (.slice a2 cc.nodes.length c2)) (us := intC cc.nodes) (by simp)).rdv) ok (by omega))
                  rcases ha1 : askT (aSwapWay r cc.way cc.old cc.new) x3 with ⟨q, x4⟩
                  rw [ha1] at C1
                  have C1 := Lib.hid C1
                  clear HH hF
                  cases q with
                  | none =>
                    have HP : Hid ((.wait, _) = res) := Lib.hid ((Wk.run_none (k := (fun _ => (Wk.ret ()).bind fun _ => .ask (aSet n 2) fun _ => .ret true)) ha1).symm.trans hP)
                    clear hP
                    go_wp2_with fail
                    refine C1.out.mono ?_
                    rintro e w' ⟨rfl, H⟩
                    change bodyPost Try.prog Try.f90 _ (Exit.panic [waitE]) _ _
                    rw [← HP.out]
                    exact ⟨rfl, rfl, H.dropX⟩
                  | some q =>
                    have hP2 := (Wk.run_some (k := (fun _ => (Wk.ret ()).bind fun _ => .ask (aSet n 2) fun _ => .ret true)) ha1).symm.trans hP
                    have hP2 : (Wk.ask (aSet n 2) (fun _ => .ret true)).run x4 = res := hP2
                    have HF2 := Lib.hid (HF.out.ask (good_swapWay r cc.way cc.old cc.new) ha1)
                    clear hP
                    go_wp2_with fail
                    refine C1.out.mono ?_
                    rintro e y3 ⟨rfl, H⟩
                    have HX := Lib.hid H
                    clear H C1 y0 k0
                    have C4 := Set_task (me := me) wp HX.out hin HF2.out n 2
                    obtain ⟨k0, k1, k2⟩ := tk_cells (tk := b0) (me := me) (tb := pl.tb) (wb := c.wb) HX.out X.length (by simp [tkP])
                    have kb := (x_blk (b := b1) (t := 2) (cs := #[.int .i64 n]) HX.out (X.length + 1) (by simp)).cell 0
                    unfold tkV setP at C4
                    rcases ha4 : askT (aSet n 2) x4 with ⟨q4, x5⟩
                    cases q4 with
                    | none =>
                      have HP : Hid ((.wait, _) = res) := Lib.hid ((Wk.run_none (k := (fun _ => .ret true)) ha4).symm.trans hP2)
                      rw [Wk.run_none ha4] at C4
                      have C4 := Lib.hid C4
                      clear hP2 HX
                      go_wp2_with fail
                      refine C4.out.mono ?_
                      rintro e w' ⟨rfl, H⟩
                      change bodyPost Try.prog Try.f90 _ (Exit.panic [waitE]) _ _
                      rw [← HP.out]
                      exact ⟨rfl, rfl, H.dropX⟩
                    | some q4 =>
                      have hP5 := (Wk.run_some (k := (fun _ => .ret true)) ha4).symm.trans hP2
                      have HP : Hid ((.done true, x5) = res) := Lib.hid hP5
                      rw [Wk.run_some ha4] at C4
                      have HF5 := Lib.hid (HF2.out.ask (good_set n 2) ha4)
                      have C4 := Lib.hid C4
                      clear hP2 hP5 HX
                      go_wp2_with fail
                      refine C4.out.mono ?_
                      rintro e w' ⟨val, Y, rfl, ⟨rfl, rfl⟩, _, H⟩
                      rw [List.append_nil] at H
                      have HX := Lib.hid H.dropX
                      clear H C4 k0 k1 k2 kb
                      go_wp2_with fail
                      go_ret
                      rw [← HP.out]
                      exact ⟨_, [], rfl, ⟨rfl, rfl⟩, HF5.out, by rw [List.append_nil]; exact HX.out⟩
                · have hF : firstP cc = .ret () := by
                    unfold firstP
                    rw [List.eq_nil_of_length_eq_zero (by omega : cc.nodes.length = 0)]
                  rw [hF] at hP
                  have hP2 : (Wk.ask (aSet n 2) (fun _ => .ret true)).run x3 = res := hP
                  have HX := HH
                  clear hP hF HH
                  have C4 := Set_task (me := me) wp HX.out hin HF.out n 2
                  obtain ⟨k0, k1, k2⟩ := tk_cells (tk := b0) (me := me) (tb := pl.tb) (wb := c.wb) HX.out X.length (by simp [tkP])
                  have kb := (x_blk (b := b1) (t := 2) (cs := #[.int .i64 n]) HX.out (X.length + 1) (by simp)).cell 0
                  unfold tkV setP at C4
                  rcases ha4 : askT (aSet n 2) x3 with ⟨q4, x5⟩
                  cases q4 with
                  | none =>
                    have HP : Hid ((.wait, _) = res) := Lib.hid ((Wk.run_none (k := (fun _ => .ret true)) ha4).symm.trans hP2)
                    rw [Wk.run_none ha4] at C4
                    have C4 := Lib.hid C4
                    clear hP2 HX
                    go_wp2_with fail
                    refine C4.out.mono ?_
                    rintro e w' ⟨rfl, H⟩
                    change bodyPost Try.prog Try.f90 _ (Exit.panic [waitE]) _ _
                    rw [← HP.out]
                    exact ⟨rfl, rfl, H.dropX⟩
                  | some q4 =>
                    have hP5 := (Wk.run_some (k := (fun _ => .ret true)) ha4).symm.trans hP2
                    have HP : Hid ((.done true, x5) = res) := Lib.hid hP5
                    rw [Wk.run_some ha4] at C4
                    have HF5 := Lib.hid (HF.out.ask (good_set n 2) ha4)
                    have C4 := Lib.hid C4
                    clear hP2 hP5 HX
                    go_wp2_with fail
                    refine C4.out.mono ?_
                    rintro e w' ⟨val, Y, rfl, ⟨rfl, rfl⟩, _, H⟩
                    rw [List.append_nil] at H
                    have HX := Lib.hid H.dropX
                    clear H C4 k0 k1 k2 kb
                    go_wp2_with fail
                    go_ret
                    rw [← HP.out]
                    exact ⟨_, [], rfl, ⟨rfl, rfl⟩, HF5.out, by rw [List.append_nil]; exact HX.out⟩
end
end Go.Proofs.Ythkohomogknddaa
