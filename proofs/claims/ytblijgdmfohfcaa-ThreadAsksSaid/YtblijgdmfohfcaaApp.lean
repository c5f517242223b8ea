/- Append of any number of elements, none too, to a slice that one owns: one law. Frames that are gone up without a thought. No condition but the bounds of size. -/
import Derived.Test.YtblijgdmfohfcaaQueue
import Derived.Test.YtblijgdmfohfcaaRead
import Derived.Deep.Upon
namespace Go.Proofs.Ytblijgdmfohfcaa
open Go Go.RowKit
set_option linter.unusedVariables false
set_option linter.unusedSimpArgs false
theorem run_append_any {P : Program} (w : World) (t ty e : TypeId) (i : TypeInfo) (z : Value) (size bytes : Nat) (ht : P.underlying t = some (.slice e)) (hi : P.info? e = some i) (hz : i.zero = some z)
    (hsize : i.size = size) (hby : i.bytes = bytes) (hzs : z.cells.size = size) (hsz : 0 < size) (v : Value) (n : Nat) (us : List Value) (hq : QRow w e size v n us)
    (x : Value) (m : Nat) (news : List Value) (hx : RdV w x m size news) (h1 : ∀ u ∈ news, u.oneCell' = true)
    (h63 : n + m ≤ maxLen) (hbytes : (n + m) * bytes ≤ 140737488355328) :
    ∃ v' w', (Builtin.append_ #[t, t] ty #[v, x]).run P w = .ok v' w' ∧ QRow w' e size v' (n + m) (us ++ news) ∧ w.grownBy w' v.ownBlock ∧ (∀ g, v'.ownBlock = some g → v.ownBlock = some g ∨ (w.heap.size ≤ g ∧ g < w'.heap.size)) := by
  by_cases hm : m = 0
  · subst hm
    obtain ⟨h0, _, hv⟩ := hx
    obtain rfl : news = [] := List.eq_nil_of_length_eq_zero (by simpa using h0)
    have hq' := hq
    obtain ⟨h0', a, cap, rfl, hnc, hcm, h3⟩ := hq
    refine ⟨_, w, ?_, by simpa using hq', World.grownBy.refl _ _, fun g hg => .inl hg⟩
    rcases hv with ⟨rfl, _⟩ | ⟨b, c, rfl, _, _⟩
    · exact run_append_nothing w t t ty e i ht hi a n cap hnc _ (Src.ofNil w ht 0)
    · exact run_append_nothing w t t ty e i ht hi a n cap hnc _ (Src.ofSlice w ht b 0 c [] (by simp) (by simp) (by simp))
  · obtain ⟨h0, _, hv⟩ := hx
    rcases hv with ⟨_, rfl⟩ | ⟨b, c, rfl, _, hcell⟩
    · exact absurd rfl hm
    · obtain ⟨g, off, cap, w', r1, r2, r3, r4, r5⟩ := run_append_q (P := P) w t ty e i z size bytes ht hi hz hsize hby hzs hsz v n us hq b m c news h0 (fun j u hu => by rw [hcell j (by have := (List.getElem?_eq_some_iff.1 hu).1; omega), hu]) h1 (by omega) h63 hbytes
      refine ⟨_, w', r1, r2, r3, fun g' hg => ?_⟩
      simp only [Value.ownBlock, Option.some.injEq] at hg
      subst hg
      rcases r4 with r4 | r4
      · exact .inl r4
      · exact .inr ⟨r4, r5⟩
section
variable {P : Program} (w : World)
theorem wp_append_any {o : Oper} {a : Act} {K : Act → World → Prop} {Q : Exit → Act → World → Prop} (s x : Operand) (t : TypeId)
    (ho : o.op = .call { callee := .builtin .append, args := #[s, x], argTypes := #[t, t] })
    (e : TypeId) (i : TypeInfo) (z : Value) (size bytes : Nat) (ht : P.underlying t = some (.slice e)) (hi : P.info? e = some i) (hz : i.zero = some z)
    (hsize : i.size = size) (hby : i.bytes = bytes) (hzs : z.cells.size = size) (hsz : 0 < size)
    (v : Value) (n : Nat) (us : List Value) (hs : a.eval s = v) (hq : QRow w e size v n us)
    (xv : Value) (m : Nat) (news : List Value) (hx : a.eval x = xv) (hr : RdV w xv m size news) (h1 : ∀ u ∈ news, u.oneCell' = true)
    (h63 : n + m ≤ maxLen) (hbytes : (n + m) * bytes ≤ 140737488355328)
    (h : ∀ a' c' w', QRow w' e size (.slice a' (n + m) c') (n + m) (us ++ news) → w.grownBy w' v.ownBlock → (∀ g, (Value.slice a' (n + m) c').ownBlock = some g → v.ownBlock = some g ∨ (w.heap.size ≤ g ∧ g < w'.heap.size)) → K (a.put o.dst (.slice a' (n + m) c')) w') : o.wp P a w K Q := by
  obtain ⟨v', w', hrun, h2, h3, h4⟩ := run_append_any (P := P) w t o.type e i z size bytes ht hi hz hsize hby hzs hsz v n us hq xv m news hr h1 h63 hbytes
  obtain ⟨a', c', rfl, _, _⟩ := h2.form
  unfold Oper.wp execOp
  simp only [ho, resolve, invoke, builtin, Sem.run_bind, Sem.run_pure, Result.andThen_ok, List.map_toArray, List.map_cons, List.map_nil, hs, hx, hrun]
  exact h a' c' w' h2 h3 h4
theorem wpList_append_any {ops : Array Oper} {rest : List Oper} {o : Oper} {a : Act} {Q : Exit → Act → World → Prop} (hgd : o.guard = none) (s x : Operand) (t : TypeId)
    (ho : o.op = .call { callee := .builtin .append, args := #[s, x], argTypes := #[t, t] })
    (e : TypeId) (i : TypeInfo) (z : Value) (size bytes : Nat) (ht : P.underlying t = some (.slice e)) (hi : P.info? e = some i) (hz : i.zero = some z)
    (hsize : i.size = size) (hby : i.bytes = bytes) (hzs : z.cells.size = size) (hsz : 0 < size)
    (v : Value) (n : Nat) (us : List Value) (hs : a.eval s = v) (hq : QRow w e size v n us)
    (xv : Value) (m : Nat) (news : List Value) (hx : a.eval x = xv) (hr : RdV w xv m size news) (h1 : ∀ u ∈ news, u.oneCell' = true)
    (h63 : n + m ≤ maxLen) (hbytes : (n + m) * bytes ≤ 140737488355328)
    (h : ∀ a' c' w', QRow w' e size (.slice a' (n + m) c') (n + m) (us ++ news) → w.grownBy w' v.ownBlock → (∀ g, (Value.slice a' (n + m) c').ownBlock = some g → v.ownBlock = some g ∨ (w.heap.size ≤ g ∧ g < w'.heap.size)) → wpList P ops Q rest (a.put o.dst (.slice a' (n + m) c')) w') : wpList P ops Q (o :: rest) a w :=
  wpList_plain hgd fun _ hK => wp_append_any w s x t ho e i z size bytes ht hi hz hsize hby hzs hsz v n us hs hq xv m news hx hr h1 h63 hbytes fun a' c' w' h2 h3 h4 => hK _ _ (h a' c' w' h2 h3 h4)
theorem step_append_any {ops : Array Oper} {o : Oper} {a : Act} {K : Act → World → Prop} {Q : Exit → Act → World → Prop} {E : Prop} (hgd : o.guard = none) (s x : Operand) (t : TypeId)
    (ho : o.op = .call { callee := .builtin .append, args := #[s, x], argTypes := #[t, t] })
    (e : TypeId) (i : TypeInfo) (z : Value) (size bytes : Nat) (ht : P.underlying t = some (.slice e)) (hi : P.info? e = some i) (hz : i.zero = some z)
    (hsize : i.size = size) (hby : i.bytes = bytes) (hzs : z.cells.size = size) (hsz : 0 < size)
    (v : Value) (n : Nat) (us : List Value) (hs : a.eval s = v) (hq : QRow w e size v n us)
    (xv : Value) (m : Nat) (news : List Value) (hx : a.eval x = xv) (hr : RdV w xv m size news) (h1 : ∀ u ∈ news, u.oneCell' = true)
    (h63 : n + m ≤ maxLen) (hbytes : (n + m) * bytes ≤ 140737488355328)
    (h : ∀ a' c' w', QRow w' e size (.slice a' (n + m) c') (n + m) (us ++ news) → w.grownBy w' v.ownBlock → (∀ g, (Value.slice a' (n + m) c').ownBlock = some g → v.ownBlock = some g ∨ (w.heap.size ≤ g ∧ g < w'.heap.size)) → K (a.put o.dst (.slice a' (n + m) c')) w') :
    if Region.wanted o (yielded ops a.tmps) = true then Oper.wp P o a w K Q else E := by
  have hw : Region.wanted o (yielded ops a.tmps) = true := by simp [Region.wanted, hgd]
  rw [if_pos hw]
  exact wp_append_any w s x t ho e i z size bytes ht hi hz hsize hby hzs hsz v n us hs hq xv m news hx hr h1 h63 hbytes h
end
/-- A block that was just laid, as a slice that can be read. -/
theorem RdV.block {w : World} {g m sz : Nat} {t : TypeId} {cs : Array Value} (h : Blk w g t cs) (hl : cs.size = m * sz) (hm : m ≤ maxLen) : RdV w (.slice (some ⟨g, 0, none⟩) m m) m sz cs.toList :=
  ⟨by simpa using hl, hm, .inr ⟨_, m, rfl, Nat.le_refl _, fun j hj => by rw [add_lit, h.cell]; simp⟩⟩
/-- What one owns can be read. -/
theorem QRow.rdv {w : World} {t : TypeId} {sz : Nat} {v : Value} {n : Nat} {us : List Value} (h : QRow w t sz v n us) : RdV w v n sz us := by
  obtain ⟨h0, a, cap, rfl, h1, h2, h3⟩ := h
  refine ⟨h0, by omega, ?_⟩
  rcases h3 with ⟨rfl, h3⟩ | ⟨g, off, cur, rfl, hb, h4, h5⟩
  · obtain rfl : n = 0 := by omega
    rcases h3 with rfl | ⟨b, rfl⟩
    · exact .inl ⟨rfl, rfl⟩
    · exact .inr ⟨b, 0, rfl, Nat.le_refl _, fun j hj => by simp at hj⟩
  · refine .inr ⟨_, cap, rfl, h1, fun j hj => ?_⟩
    have hu : us[j]? = some (us[j]'(by omega)) := List.getElem?_eq_getElem (by omega)
    rw [Addr.add_lit, hb.cell, hu]
    exact h5 _ _ hu
end Go.Proofs.Ytblijgdmfohfcaa
