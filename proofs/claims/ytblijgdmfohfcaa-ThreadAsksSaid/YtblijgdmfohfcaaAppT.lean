/- Append, with what is known of a new block's type. No condition but the bounds of size. -/
import Derived.Test.YtblijgdmfohfcaaApp
namespace Go.Proofs.Ytblijgdmfohfcaa
open Go Go.RowKit
set_option linter.unusedVariables false
set_option linter.unusedSimpArgs false
theorem run_append_typed {P : Program} (w : World) (t ty e : TypeId) (i : TypeInfo) (z : Value) (size bytes : Nat) (ht : P.underlying t = some (.slice e)) (hi : P.info? e = some i) (hz : i.zero = some z)
    (hsize : i.size = size) (hby : i.bytes = bytes) (hzs : z.cells.size = size) (hsz : 0 < size) (v : Value) (n : Nat) (us : List Value) (hq : QRow w e size v n us)
    (x : Value) (m : Nat) (news : List Value) (hx : RdV w x m size news) (h1 : ∀ u ∈ news, u.oneCell' = true)
    (h63 : n + m ≤ maxLen) (hbytes : (n + m) * bytes ≤ 140737488355328) :
    ∃ v' w', (Builtin.append_ #[t, t] ty #[v, x]).run P w = .ok v' w' ∧ QRow w' e size v' (n + m) (us ++ news) ∧ w.grownBy w' v.ownBlock ∧ (∀ g, v'.ownBlock = some g → (m = 0 ∧ w' = w ∧ v' = v) ∨ ((v.ownBlock = some g ∨ w.heap.size ≤ g) ∧ ∃ c, Blk w' g e c)) := by
  by_cases hm : m = 0
  · subst hm
    obtain ⟨h0, _, hv⟩ := hx
    obtain rfl : news = [] := List.eq_nil_of_length_eq_zero (by simpa using h0)
    have hq' := hq
    obtain ⟨h0', a, cap, rfl, hnc, hcm, h3⟩ := hq
    refine ⟨_, w, ?_, by simpa using hq', World.grownBy.refl _ _, fun g hg => .inl ⟨rfl, rfl, rfl⟩⟩
    rcases hv with ⟨rfl, _⟩ | ⟨b, c, rfl, _, _⟩
    · exact run_append_nothing w t t ty e i ht hi a n cap hnc _ (Src.ofNil w ht 0)
    · exact run_append_nothing w t t ty e i ht hi a n cap hnc _ (Src.ofSlice w ht b 0 c [] (by simp) (by simp) (by simp))
  · obtain ⟨v', w', r1, r2, r3, r4⟩ := run_append_any (P := P) w t ty e i z size bytes ht hi hz hsize hby hzs hsz v n us hq x m news hx h1 h63 hbytes
    refine ⟨v', w', r1, r2, r3, fun g hg => ?_⟩
    obtain ⟨a, cap, rfl, _, _⟩ := r2.form
    obtain ⟨g', off, cur, rfl, hb, _, _⟩ := r2.at (by omega)
    have h := r4 g hg
    simp [Value.ownBlock] at hg
    subst hg
    exact .inr ⟨h.imp_right (·.1), cur, hb⟩
section
variable {P : Program} (w : World)
theorem step_append_typed {ops : Array Oper} {o : Oper} {a : Act} {K : Act → World → Prop} {Q : Exit → Act → World → Prop} {E : Prop} (hgd : o.guard = none) (s x : Operand) (t : TypeId)
    (ho : o.op = .call { callee := .builtin .append, args := #[s, x], argTypes := #[t, t] })
    (e : TypeId) (i : TypeInfo) (z : Value) (size bytes : Nat) (ht : P.underlying t = some (.slice e)) (hi : P.info? e = some i) (hz : i.zero = some z)
    (hsize : i.size = size) (hby : i.bytes = bytes) (hzs : z.cells.size = size) (hsz : 0 < size)
    (v : Value) (n : Nat) (us : List Value) (hs : a.eval s = v) (hq : QRow w e size v n us)
    (xv : Value) (m : Nat) (news : List Value) (hx : a.eval x = xv) (hr : RdV w xv m size news) (h1 : ∀ u ∈ news, u.oneCell' = true)
    (h63 : n + m ≤ maxLen) (hbytes : (n + m) * bytes ≤ 140737488355328)
    (h : ∀ a' c' w', QRow w' e size (.slice a' (n + m) c') (n + m) (us ++ news) → w.grownBy w' v.ownBlock → (∀ g, (Value.slice a' (n + m) c').ownBlock = some g → (m = 0 ∧ w' = w ∧ Value.slice a' (n + m) c' = v) ∨ ((v.ownBlock = some g ∨ w.heap.size ≤ g) ∧ ∃ c, Blk w' g e c)) → K (a.put o.dst (.slice a' (n + m) c')) w') :
    if Region.wanted o (yielded ops a.tmps) = true then Oper.wp P o a w K Q else E := by
  have hw : Region.wanted o (yielded ops a.tmps) = true := by simp [Region.wanted, hgd]
  rw [if_pos hw]
  obtain ⟨v', w', hrun, h2, h3, h4⟩ := run_append_typed (P := P) w t o.type e i z size bytes ht hi hz hsize hby hzs hsz v n us hq xv m news hr h1 h63 hbytes
  obtain ⟨a', c', rfl, _, _⟩ := h2.form
  unfold Oper.wp execOp
  simp only [ho, resolve, invoke, builtin, Sem.run_bind, Sem.run_pure, Result.andThen_ok, List.map_toArray, List.map_cons, List.map_nil, hs, hx, hrun]
  exact h a' c' w' h2 h3 h4
end
end Go.Proofs.Ytblijgdmfohfcaa
