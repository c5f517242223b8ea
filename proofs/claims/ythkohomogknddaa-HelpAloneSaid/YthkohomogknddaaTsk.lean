/- The world's tasks: one, Begin, End, Make, Drop, Leave. No condition but the bounds of size. -/
import Derived.Test.YthkohomogknddaaTch
namespace Go.Proofs.Ythkohomogknddaa
open Go Go.RowKit
set_option linter.unusedVariables false
set_option linter.unusedSimpArgs false
set_option maxRecDepth 100000
def tkV (tb wb : Nat) (me : Int) : Value := .agg #[.pointer (some ⟨tb, 0, none⟩), .pointer (some ⟨wb, 0, none⟩), .int .i64 me]
def inR (n : Int) : Prop := -9223372036854775808 ≤ n ∧ n ≤ 9223372036854775807
section
variable {w0 w : World} {pl : Pl Wd} {X : List Piece} {s : Wd} {T : Th} {c : Wc} {tk nk N : Nat} {me now : Int}
theorem one_calls (wp : WdPl pl c) (h : Heap w0 w (pl.F s T ++ X)) (ok : WdOk N s) (hN' : N ≤ 50000) (hn : inR now) :
    Calls Try.prog 75 #[tkV pl.tb c.wb me, .int .i64 now] w fun e w' => e = .returned (.int .i64 (aOne me now s).1) ∧ Heap w0 w' (pl.F (aOne me now s).2 T ++ X) := by
  have h1 := h.alloc 41 #[.pointer (some ⟨pl.tb, 0, none⟩), .pointer (some ⟨c.wb, 0, none⟩), .int .i64 me]
  rw [List.append_assoc] at h1
  generalize hH : w.heap.size = b0 at *
  have hd := h1.drew
  obtain ⟨k0, k1, k2⟩ := tk_cells (tk := b0) (me := me) (tb := pl.tb) (wb := c.wb) hd X.length (by simp [tkP])
  obtain ⟨v0, v1, v2, v3, v4, v5⟩ := wd_cells wp hd
  have C := Lib.hid (Ready_h hd (wp.wi + 3) (get_left (wp.g3 s T)) ok.ep me now hn)
  generalize hz : (w.alloc (.cells #[.pointer (some ⟨pl.tb, 0, none⟩), .pointer (some ⟨c.wb, 0, none⟩), .int .i64 me] 41)) = z at *
  have q0 : z.drew.cell? ⟨b0, 1, none⟩ = some (.pointer (some ⟨c.wb, 0, none⟩)) ∧ z.drew.cell? ⟨b0, 2, none⟩ = some (.int .i64 me) ∧ z.drew.cell? ⟨c.wb, 2, none⟩ = some (.pointer (some ⟨c.eb, 0, none⟩)) := ⟨k1, k2, v2⟩
  clear h hd h1
  unfold tkV
  go_enter Try.func75, Try.ntmps75
  go_upto_region 1 with fail
  try simp only [hH, hz]
  refine wp_region_noPanic ?_
  refine AnyK.start (ks := [8, 9]) (S := fun w' => w'.cell? ⟨b0, 1, none⟩ = some (.pointer (some ⟨c.wb, 0, none⟩)) ∧ w'.cell? ⟨b0, 2, none⟩ = some (.int .i64 me) ∧ w'.cell? ⟨c.wb, 2, none⟩ = some (.pointer (some ⟨c.eb, 0, none⟩))) (by kernel_rfl) (by exact q0) (fun _ => ?_)
  refine AnyK.takeB (i := 0) (v := ?_) rfl (by kernel_rfl) (by kernel_rfl) (by kernel_rfl) (by kernel_rfl) (fun _ _ _ h => h) (Or.inl ⟨by rfl, ?_⟩) (by exact q0) ?_
  rotate_left
  focus
    intro w9 hSw
    try dsimp only at hSw
    go_simp
    try with_reducible rfl
  try simp only [Act.put, List.setIfInBounds_toArray, List.set_cons_zero, List.set_cons_succ]
  refine AnyK.takeB (i := 1) (v := ?_) rfl (by kernel_rfl) (by kernel_rfl) (by kernel_rfl) (by kernel_rfl) (fun _ _ _ h => h) (Or.inl ⟨by rfl, ?_⟩) (by exact q0) ?_
  rotate_left
  focus
    intro w9 hSw
    try dsimp only at hSw
    go_simp
    try with_reducible rfl
  try simp only [Act.put, List.setIfInBounds_toArray, List.set_cons_zero, List.set_cons_succ]
  refine AnyK.takeB (i := 2) (v := ?_) rfl (by kernel_rfl) (by kernel_rfl) (by kernel_rfl) (by kernel_rfl) (fun _ _ _ h => h) (Or.inl ⟨by rfl, ?_⟩) (by exact q0) ?_
  rotate_left
  focus
    intro w9 hSw
    try dsimp only at hSw
    go_simp
    try with_reducible rfl
  try simp only [Act.put, List.setIfInBounds_toArray, List.set_cons_zero, List.set_cons_succ]
  refine AnyK.takeB (i := 3) (v := ?_) rfl (by kernel_rfl) (by kernel_rfl) (by kernel_rfl) (by kernel_rfl) (fun _ _ _ h => h) (Or.inl ⟨by rfl, ?_⟩) (by exact q0) ?_
  rotate_left
  focus
    intro w9 hSw
    try dsimp only at hSw
    go_simp
    try with_reducible rfl
  try simp only [Act.put, List.setIfInBounds_toArray, List.set_cons_zero, List.set_cons_succ]
  refine AnyK.takeB (i := 4) (v := ?_) rfl (by kernel_rfl) (by kernel_rfl) (by kernel_rfl) (by kernel_rfl) (fun _ _ _ h => h) (Or.inl ⟨by rfl, ?_⟩) (by exact q0) ?_
  rotate_left
  focus
    intro w9 hSw
    try dsimp only at hSw
    go_simp
    try with_reducible rfl
  try simp only [Act.put, List.setIfInBounds_toArray, List.set_cons_zero, List.set_cons_succ]
  refine AnyK.takeB (i := 5) (v := ?_) rfl (by kernel_rfl) (by kernel_rfl) (by kernel_rfl) (by kernel_rfl) (fun _ _ _ h => h) (Or.inl ⟨by rfl, ?_⟩) (by exact q0) ?_
  rotate_left
  focus
    intro w9 hSw
    try dsimp only at hSw
    go_simp
    try with_reducible rfl
  try simp only [Act.put, List.setIfInBounds_toArray, List.set_cons_zero, List.set_cons_succ]
  refine AnyK.takeB (i := 6) (v := ?_) rfl (by kernel_rfl) (by kernel_rfl) (by kernel_rfl) (by kernel_rfl) (fun _ _ _ h => h) (Or.inl ⟨by rfl, ?_⟩) (by exact q0) ?_
  rotate_left
  focus
    intro w9 hSw
    try dsimp only at hSw
    go_simp
    try with_reducible rfl
  try simp only [Act.put, List.setIfInBounds_toArray, List.set_cons_zero, List.set_cons_succ]
  refine AnyK.takeB (i := 7) (v := ?_) rfl (by kernel_rfl) (by kernel_rfl) (by kernel_rfl) (by kernel_rfl) (fun _ _ _ h => h) (Or.inl ⟨by rfl, ?_⟩) (by exact q0) ?_
  rotate_left
  focus
    intro w9 hSw
    try dsimp only at hSw
    go_simp
    try with_reducible rfl
  try simp only [Act.put, List.setIfInBounds_toArray, List.set_cons_zero, List.set_cons_succ]
  refine AnyK.one (i := 8) (by kernel_rfl) rfl (fun K9 hK9 => ?_)
  go_simp
  refine C.out.mono ?_
  rintro e w' ⟨rfl, H⟩
  refine hK9.out _ _ (fun hx => absurd (by decide) hx) ?_
  clear hK9 K9
  try simp only [Act.put, List.setIfInBounds_toArray, List.set_cons_zero, List.set_cons_succ]
  refine AnyK.one (i := 9) (by kernel_rfl) rfl (fun K9 hK9 => ?_)
  go_simp
  refine hK9.out _ _ (fun hx => absurd (by decide) hx) ?_
  clear hK9 K9
  try simp only [Act.put, List.setIfInBounds_toArray, List.set_cons_zero, List.set_cons_succ]
  refine AnyK.done (by kernel_rfl) ?_ _
  refine NoPanic.normal ?_
  rw [wp.setEp] at H
  have h2 : Heap w0 w' (pl.F { s with ep := (takeEp me now s.ep).2 } T ++ X ++ [blkP b0 41 #[.pointer (some ⟨pl.tb, 0, none⟩), .pointer (some ⟨c.wb, 0, none⟩), .int .i64 me]]) := by rw [List.append_assoc]; exact H
  have e0 : aOne me now s = ((takeEp me now s.ep).1, if (takeEp me now s.ep).1 = 0 then { s with ep := (takeEp me now s.ep).2 } else { s with ep := (takeEp me now s.ep).2, ar := (freeAr (takeEp me now s.ep).1 s.ar).2 }) := rfl
  obtain ⟨k0, k1, k2⟩ := tk_cells (tk := b0) (me := me) (tb := pl.tb) (wb := c.wb) H X.length (by simp [tkP])
  obtain ⟨v0, v1, v2, v3, v4, v5⟩ := wd_cells wp H
  generalize (takeEp me now s.ep).1 = r at *
  generalize (takeEp me now s.ep).2 = e2 at *
  by_cases hr : r = 0
  · subst hr
    rw [if_pos rfl] at e0
    have E0 := Lib.hid e0
    have HF := Lib.hid h2.first
    clear h2 H e0
    go_wp2_with fail
    go_ret
    rw [E0.out]
    exact ⟨rfl, HF.out⟩
  · rw [if_neg hr] at e0
    have E0 := Lib.hid e0
    clear e0
    have CF := Lib.hid (Free_h H (wp.wi + 1) (get_left (wp.g1 { s with ep := e2 } T)) (ok.ar.small (by omega)).1 (ok.ar.small (by omega)).2.1 r)
    have hr' : (r != 0) = true := by simpa using hr
    clear h2 H
    go_wp2_with fail
    refine CF.out.mono ?_
    rintro e w2 ⟨rfl, H⟩
    rw [wp.setAr, ← List.append_assoc] at H
    have HF := Lib.hid H.first
    clear H
    go_wp2_with fail
    go_ret
    rw [E0.out]
    exact ⟨rfl, HF.out⟩
/-- Begin's work: what others announced; what may be freed. -/
def saids : Nat → Int → Int → Wk Bool
  | 0, _, _ => .ret true
  | m + 1, k, now => .ask (aSaid k) fun a => if a ≠ -1 ∧ a ≠ now then .ret false else saids m (k + 1) now
def ones : Nat → Int → Int → Wk Unit
  | 0, _, _ => .stuck
  | F + 1, me, now => .ask (aOne me now) fun r => if r = 0 then .ret () else ones F me now
def goOn (all : Bool) (now : Int) : Wk Unit := if all = true then .ask (aSwap now) fun _ => .ret () else .ret ()
def beginP (me : Int) (n F : Nat) : Wk Unit := .ask aNow fun now => .ask (aSay me now) fun _ => (saids n 0 now).bind fun all => (goOn all now).bind fun _ => .ask aNow fun now2 => ones F me now2
def unitR (_ : Unit) (v : Value) (Y : List Piece) : Prop := v = .tuple #[] ∧ Y = []
theorem now_enters (x : Array Value) (z : World) : (callFunc 23 x).run Try.prog z = .ok (.enter 23 x) z := rfl
theorem say_enters (x : Array Value) (z : World) : (callFunc 70 x).run Try.prog z = .ok (.enter 70 x) z := rfl
theorem said_enters (x : Array Value) (z : World) : (callFunc 71 x).run Try.prog z = .ok (.enter 71 x) z := rfl
theorem swap_enters (x : Array Value) (z : World) : (callFunc 73 x).run Try.prog z = .ok (.enter 73 x) z := rfl
theorem one_enters (x : Array Value) (z : World) : (callFunc 74 x).run Try.prog z = .ok (.enter 74 x) z := rfl
theorem end_enters (x : Array Value) (z : World) : (callFunc 76 x).run Try.prog z = .ok (.enter 76 x) z := rfl
theorem make_enters (x : Array Value) (z : World) : (callFunc 83 x).run Try.prog z = .ok (.enter 83 x) z := rfl
theorem drop_enters (x : Array Value) (z : World) : (callFunc 84 x).run Try.prog z = .ok (.enter 84 x) z := rfl
theorem leave_enters (x : Array Value) (z : World) : (callFunc 85 x).run Try.prog z = .ok (.enter 85 x) z := rfl
theorem now_touch (wp : WdPl pl c) (h : Heap w0 w (pl.F s T ++ X)) : Calls Try.prog 23 #[.pointer (some ⟨c.eb, 0, none⟩)] w fun e w' => e = .returned (.int .i64 (aNow s).1) ∧ Heap w0 w' (pl.F (aNow s).2 T ++ X) := by
  refine (Now_h h (wp.wi + 3) (get_left (wp.g3 s T))).mono ?_
  rintro e w' ⟨rfl, rfl⟩
  exact ⟨rfl, h⟩
theorem beg4_touch (wp : WdPl pl c) (h : Heap w0 w (pl.F s T ++ X)) (ti : Nat) (hT : X[ti]? = some (tkP pl.tb c.wb tk me)) (ni : Nat) (hN : X[ni]? = some (blkP nk 2 #[.int .i64 now])) (ok : WdOk N s) (hN' : N ≤ 50000) (hn : inR now) :
    Calls Try.prog 74 #[.pointer (some ⟨tk, 0, none⟩), .pointer (some ⟨nk, 0, none⟩)] w fun e w' => e = .returned (.int .i64 (aOne me now s).1) ∧ Heap w0 w' (pl.F (aOne me now s).2 T ++ X) := by
  obtain ⟨k0, k1, k2⟩ := tk_cells h ti hT
  have kn : w.cell? ⟨nk, 0, none⟩ = some (.int .i64 now) := (x_blk h ni hN).cell 0
  have C := one_calls (me := me) wp h ok hN' hn
  unfold tkV at C
  have CC := Lib.hid C
  clear h C ok hn
  go_enter Try.func74, Try.ntmps74
  go_wp2_with fail
  refine CC.out.mono ?_
  rintro e w' ⟨rfl, H⟩
  have HH := Lib.hid H
  clear H
  go_wp2_with fail
  go_ret
  exact ⟨rfl, HH.out⟩
variable {x : Tst Wd}
theorem End_task (wp : WdPl pl c) (h : Heap w0 w (pl.F x.sh (T.of x) ++ X)) (hin : T.inn = true) (hf : FitW N x) :
    Calls Try.prog 26 #[tkV pl.tb c.wb me] w (TaskP pl w0 X T N unitR ((Wk.ask (aSay me (-1)) fun _ => .ret ()).run x)) := by
  have h1 := h.alloc 41 #[.pointer (some ⟨pl.tb, 0, none⟩), .pointer (some ⟨c.wb, 0, none⟩), .int .i64 me]
  rw [List.append_assoc] at h1
  have C := Do_wd h1 hin hf 76 #[] #[.pointer (some ⟨w.heap.size, 0, none⟩)] end_enters (aSay me (-1)) (fun T z _ _ hz => endSay_touch wp hz X.length (by simp [tkP]))
  obtain ⟨k0, k1, k2⟩ := tk_cells (tk := w.heap.size) (me := me) (tb := pl.tb) (wb := c.wb) h1 X.length (by simp [tkP])
  have hmf : ∀ (fn : Fn) (first cap : Array Value) (z : World), (Instr.makeFunc fn first cap).run Try.prog z = .ok (.func fn first cap) z := fun _ _ _ _ => rfl
  generalize hH : w.heap.size = b0 at *
  rcases hr : askT (aSay me (-1)) x with ⟨r, x'⟩
  rw [hr] at C
  clear h h1
  cases r with
  | none =>
    rw [Wk.run_none hr]
    have CC := Lib.hid C
    clear C
    unfold tkV
    go_enter Try.func26, Try.ntmps26
    go_wp2_with fail
    refine CC.out.mono ?_
    rintro e w' ⟨rfl, H⟩
    change bodyPost Try.prog Try.f26 _ (Exit.panic [waitE]) _ _
    rw [← List.append_assoc] at H
    exact ⟨rfl, rfl, H.first⟩
  | some n =>
    rw [Wk.run_some hr]
    have HG := Lib.hid (hf.ask (good_say me (-1)) hr)
    have CC := Lib.hid C
    clear C hf
    unfold tkV
    go_enter Try.func26, Try.ntmps26
    go_wp2_with fail
    refine CC.out.mono ?_
    rintro e w' ⟨rfl, H⟩
    rw [← List.append_assoc] at H
    have HF := Lib.hid H.first
    clear H
    go_wp2_with fail
    go_end0
    exact ⟨_, [], rfl, ⟨rfl, rfl⟩, HG.out, by rw [List.append_nil]; exact HF.out⟩
def nodeV (nd : Nd) (vp vk vn : Value) : Value := .agg #[.bool nd.inner, .bool nd.tagged, vp, vk, vn]
def intR (r : Int) (v : Value) (Y : List Piece) : Prop := v = .int .i64 r ∧ Y = []
theorem Heap.rowNil {w0 w : World} {l : List Piece} (h : Heap w0 w l) (t : TypeId) (sz : Nat) : Heap w0 w (l ++ [rowP t sz (.slice none 0 0) 0 []]) := h.push (S := fun _ => False) (Fr.refl _ _) ⟨QRow.nil _ _ _, fun g hg => by simp [Value.ownBlock] at hg⟩ (fun _ x => x.elim)
theorem Heap.dropX {w0 w : World} {A X Y : List Piece} (h : Heap w0 w (A ++ (X ++ Y))) : Heap w0 w (A ++ X) := by
  rw [← List.append_assoc] at h; exact h.first
theorem Heap.setX {w0 w : World} {A X : List Piece} {b : Nat} {t : TypeId} {cs : Array Value} (h : Heap w0 w (A ++ X)) (i : Nat) (hi : X[i]? = some (blkP b t cs)) (o : Nat) (u : Value) : Heap w0 (w.setCell ⟨b, o, none⟩ u) (A ++ X.set i (blkP b t (cs.setIfInBounds o u))) := by
  have := h.setCell _ (x_get hi) o u
  rw [List.set_append_right _ _ (by omega)] at this
  simpa using this
theorem askT_sh {σ : Type} {g : σ → Int × σ} {x x' : Tst σ} {n : Int} (e : askT g x = (some n, x')) : x'.sh = x.sh ∨ x'.sh = (g x.sh).2 := by
  unfold askT at e
  split at e
  · simp only [Prod.mk.injEq, Option.some.injEq] at e
    obtain ⟨_, rfl⟩ := e
    exact .inl rfl
  · split at e
    · simp at e
    · simp only [Prod.mk.injEq, Option.some.injEq] at e
      obtain ⟨_, rfl⟩ := e
      exact .inr rfl
theorem sp_ask {σ : Type} {g : σ → Int × σ} {x x' : Tst σ} {n : Int} (h : x.spent = false → ∀ n ∈ x.log, inR n) (e : askT g x = (some n, x')) : x'.spent = false → ∀ n ∈ x'.log, inR n := fun hs => by
  obtain ⟨h1, h2, _⟩ := (askT_mem e).2.2 hs
  rw [h2]; exact h h1
set_option maxHeartbeats 1000000 in
theorem Make_task (wp : WdPl pl c) (h : Heap w0 w (pl.F x.sh (T.of x) ++ X)) (hin : T.inn = true) (hf : FitW N x) (hN' : N ≤ 50000) (nd : Nd) (hnd : nd.few) (vp vk vn : Value)
    (rd : ∀ z (L : List Piece), Heap w0 z (L ++ X) → RdV z vp nd.pairs.length 2 (pairC nd.pairs) ∧ RdV z vk nd.keys.length 1 (intC nd.keys) ∧ RdV z vn nd.ways.length 1 (intC nd.ways)) :
    Calls Try.prog 37 #[tkV pl.tb c.wb me, nodeV nd vp vk vn] w (TaskP pl w0 X T N intR ((Wk.ask (aAlloc nd) fun r => .ret r).run x)) := by
  have h1 := (h.alloc 41 #[.pointer (some ⟨pl.tb, 0, none⟩), .pointer (some ⟨c.wb, 0, none⟩), .int .i64 me]).alloc 58 #[.bool nd.inner, .bool nd.tagged, vp, vk, vn]
  rw [List.append_assoc, List.append_assoc, show (w.alloc (.cells #[.pointer (some ⟨pl.tb, 0, none⟩), .pointer (some ⟨c.wb, 0, none⟩), .int .i64 me] 41)).heap.size = w.heap.size + 1 from by simp] at h1
  have C := Do_wd h1 hin hf 83 #[] #[.pointer (some ⟨w.heap.size, 0, none⟩), .pointer (some ⟨w.heap.size + 1, 0, none⟩)] make_enters (aAlloc nd) (fun T z ok _ hz => make_touch (me := me) wp hz X.length (by simp [tkP]) (X.length + 1) nd vp vk vn (by simp) ok (by omega) hnd (fun z L hz => rd z L hz.dropX))
  obtain ⟨k0, k1, k2⟩ := tk_cells (tk := w.heap.size) (me := me) (tb := pl.tb) (wb := c.wb) h1 X.length (by simp [tkP])
  generalize hH : w.heap.size = b0 at *
  generalize hb1 : b0 + 1 = b1 at *
  generalize hz : (w.alloc (.cells #[.pointer (some ⟨pl.tb, 0, none⟩), .pointer (some ⟨c.wb, 0, none⟩), .int .i64 me] 41)).alloc (.cells #[.bool nd.inner, .bool nd.tagged, vp, vk, vn] 58) = z at *
  have hmf : ∀ (fn : Fn) (first cap : Array Value) (z : World), (Instr.makeFunc fn first cap).run Try.prog z = .ok (.func fn first cap) z := fun _ _ _ _ => rfl
  rcases hr : askT (aAlloc nd) x with ⟨r, x'⟩
  rw [hr] at C
  clear h h1 rd
  cases r with
  | none =>
    rw [Wk.run_none hr]
    have CC := Lib.hid C
    clear C
    unfold tkV nodeV
    go_enter Try.func37, Try.ntmps37
    go_wp2_with fail
    refine CC.out.mono ?_
    rintro e w' ⟨rfl, H⟩
    change bodyPost Try.prog Try.f37 _ (Exit.panic [waitE]) _ _
    exact ⟨rfl, rfl, H.dropX⟩
  | some n =>
    rw [Wk.run_some hr]
    have HG := Lib.hid (hf.ask (good_alloc nd hnd) hr)
    have CC := Lib.hid C
    clear C hf
    unfold tkV nodeV
    go_enter Try.func37, Try.ntmps37
    go_wp2_with fail
    refine CC.out.mono ?_
    rintro e w' ⟨rfl, H⟩
    have HF := Lib.hid H.dropX
    clear H
    go_wp2_with fail
    go_ret
    exact ⟨_, [], rfl, ⟨rfl, rfl⟩, HG.out, by rw [List.append_nil]; exact HF.out⟩
/-- Drop's work. -/
def dropP : List Int → Wk Unit
  | [] => .ret ()
  | r :: l => if r = 0 then dropP l else .ask (aFree r) fun _ => dropP l
set_option maxHeartbeats 1000000 in
theorem Drop_task (wp : WdPl pl c) (h : Heap w0 w (pl.F x.sh (T.of x) ++ X)) (hin : T.inn = true) (hf : FitW N x) (hN' : N ≤ 50000) (v : Value) (rs : List Int) (hm : rs.length ≤ 1000000)
    (rd : ∀ z (L : List Piece), Heap w0 z (L ++ X) → RdV z v rs.length 1 (intC rs)) :
    Calls Try.prog 40 #[tkV pl.tb c.wb me, v] w (TaskP pl w0 X T N unitR ((dropP rs).run x)) := by
  obtain ⟨pa, pc, rfl⟩ := (rd w _ h).len
  have h1 := h.alloc 41 #[.pointer (some ⟨pl.tb, 0, none⟩), .pointer (some ⟨c.wb, 0, none⟩), .int .i64 me]
  rw [List.append_assoc] at h1
  generalize hP : (dropP rs).run x = res at *
  have HP := Lib.hid hP
  have HF := Lib.hid hf
  have HRD := Lib.hid rd
  have HH := Lib.hid h1
  have hmf : ∀ (fn : Fn) (first cap : Array Value) (z : World), (Instr.makeFunc fn first cap).run Try.prog z = .ok (.func fn first cap) z := fun _ _ _ _ => rfl
  clear h h1 rd hf hP
  unfold tkV
  go_enter Try.func40, Try.ntmps40
  go_wp2_with fail
  generalize hH : w.heap.size = b0 at *
  go_loopw [8] (fun i wr => ∃ (k : Nat) (x1 : Tst Wd), i = .int .i64 (k : Nat) ∧ k ≤ rs.length ∧ Hid ((dropP (rs.drop k)).run x1 = res) ∧ Hid (FitW N x1) ∧ Hid (Heap w0 wr (pl.F x1.sh (T.of x1) ++ (X ++ [tkP pl.tb c.wb b0 me])))) (fun i _ => rs.length - (intOf i).toNat)
  case atStart => exact ⟨0, x, rfl, Nat.zero_le _, by simpa using HP, HF, HH⟩
  case round =>
    clear HH HP HF
    obtain ⟨k, x1, rfl, hk, HP, HF, HH⟩ := hrel
    by_cases hlt : k < rs.length
    · obtain ⟨a1, ea, hc1, hat1⟩ := (HRD.out _ _ HH.out.dropX).at (by omega)
      subst ea
      obtain ⟨r, hr⟩ : ∃ r, rs[k]? = some r := ⟨_, List.getElem?_eq_getElem hlt⟩
      have y1 := hat1 k (.int .i64 r) (by simp [intC, hr])
      have hd : rs.drop k = r :: rs.drop (k + 1) := by
        rw [List.drop_eq_getElem_cons hlt]
        congr 1
        exact (List.getElem?_eq_some_iff.1 hr).2
      have HB := HH.out.alloc 29 #[.int .i64 r]
      rw [List.append_assoc] at HB
      generalize hkb : wr.heap.size = kb at *
      have kn : (wr.alloc (.cells #[.int .i64 r] 29)).cell? ⟨kb, 0, none⟩ = some (.int .i64 r) := (x_blk (b := kb) (t := 29) (cs := #[.int .i64 r]) HB (X.length + 1) (by simp)).cell 0
      obtain ⟨k0, k1, k2⟩ := tk_cells (tk := b0) (me := me) (tb := pl.tb) (wb := c.wb) HB X.length (by simp [tkP])
      have hP := HP.out
      rw [hd] at hP
      clear hat1 hr hd
      by_cases h0 : r = 0
      · have hb : (r != 0) = false := by simpa using h0
        have hP3 : (dropP (rs.drop (k + 1))).run x1 = res := by rw [← hP, dropP, if_pos h0]
        have HP3 := Lib.hid hP3
        have HX := Lib.hid HB.dropX
        clear hP3 hP HB HP HH h0
        go_wp2_with fail
        exact ⟨⟨k + 1, x1, by go_num, by omega, HP3, HF, HX⟩, by simp [intOf]; omega⟩
      · have hb : (r != 0) = true := by simpa using h0
        have hP3 : (Wk.ask (aFree r) fun _ => dropP (rs.drop (k + 1))).run x1 = res := by rw [← hP, dropP, if_neg h0]
        have C := Ask_wd HB hin HF.out 84 #[] #[.pointer (some ⟨b0, 0, none⟩), .pointer (some ⟨kb, 0, none⟩)] drop_enters (freeAr r x1.sh.ar).1 (aFree r x1.sh).2 (aFree r) rfl (fun Y T z ok _ hz => free_touch (me := me) wp hz X.length (by simp [tkP]) (X.length + 1) r (by simp) ok (by omega))
        rcases ha : askT (aFree r) x1 with ⟨q, x2⟩
        rw [ha] at C
        have CC := Lib.hid C
        have H0 := Lib.hid h0
        clear C HB hP HP HH h0
        cases q with
        | none =>
          have HP : Hid ((.wait, x2) = res) := Lib.hid ((Wk.run_none (k := fun _ => dropP (rs.drop (k + 1))) ha).symm.trans hP3)
          clear hP3
          go_wp2_with fail
          refine CC.out.mono ?_
          rintro e w' ⟨rfl, H⟩
          change bodyPost Try.prog Try.f40 _ (Exit.panic [waitE]) _ _
          rw [← HP.out]
          exact ⟨rfl, rfl, H.dropX.dropX⟩
        | some q =>
          have HP : Hid ((dropP (rs.drop (k + 1))).run x2 = res) := Lib.hid ((Wk.run_some (k := fun _ => dropP (rs.drop (k + 1))) ha).symm.trans hP3)
          have HF2 := Lib.hid (HF.out.ask (good_free r) ha)
          clear hP3
          go_wp2_with fail
          refine CC.out.mono ?_
          rintro e w' ⟨rfl, H⟩
          have HX := Lib.hid H.dropX
          clear H CC k0 k1 k2 kn y1
          go_wp2_with fail
          exact ⟨⟨k + 1, x2, by go_num, by omega, HP, HF2, HX⟩, by simp [intOf]; omega⟩
    · have hd : rs.drop k = [] := List.drop_eq_nil_of_le (by omega)
      have hP := HP.out
      rw [hd] at hP
      have HP3 : Hid ((.done (), x1) = res) := Lib.hid hP
      clear hP HP hd
      go_wp2_with fail
      go_end0
      rw [← HP3.out]
      exact ⟨_, [], rfl, ⟨rfl, rfl⟩, HF.out, by rw [List.append_nil]; exact HH.out.dropX⟩
end
end Go.Proofs.Ythkohomogknddaa
