/- Append in a plain region, of any number of elements, with what is known of a new block's type; a row that grew, in the heap. No condition but the bounds of size. -/
import Derived.Test.YtblijgdmfohfcaaAppT
import Derived.Test.YtblijgdmfohfcaaMany
namespace Go.Proofs.Ytblijgdmfohfcaa
open Go Go.RowKit
set_option linter.unusedVariables false
set_option linter.unusedSimpArgs false
section
variable {P : Program} (w : World)
theorem wpList_append_typed {ops : Array Oper} {rest : List Oper} {o : Oper} {a : Act} {Q : Exit → Act → World → Prop} (hgd : o.guard = none) (s x : Operand) (t : TypeId)
    (ho : o.op = .call { callee := .builtin .append, args := #[s, x], argTypes := #[t, t] })
    (e : TypeId) (i : TypeInfo) (z : Value) (size bytes : Nat) (ht : P.underlying t = some (.slice e)) (hi : P.info? e = some i) (hz : i.zero = some z)
    (hsize : i.size = size) (hby : i.bytes = bytes) (hzs : z.cells.size = size) (hsz : 0 < size)
    (v : Value) (n : Nat) (us : List Value) (hs : a.eval s = v) (hq : QRow w e size v n us)
    (xv : Value) (m : Nat) (news : List Value) (hx : a.eval x = xv) (hr : RdV w xv m size news) (h1 : ∀ u ∈ news, u.oneCell' = true)
    (h63 : n + m ≤ maxLen) (hbytes : (n + m) * bytes ≤ 140737488355328)
    (h : ∀ a' c' w', QRow w' e size (.slice a' (n + m) c') (n + m) (us ++ news) → w.grownBy w' v.ownBlock → (∀ g, (Value.slice a' (n + m) c').ownBlock = some g → (m = 0 ∧ w' = w ∧ Value.slice a' (n + m) c' = v) ∨ ((v.ownBlock = some g ∨ w.heap.size ≤ g) ∧ ∃ c, Blk w' g e c)) → wpList P ops Q rest (a.put o.dst (.slice a' (n + m) c')) w') : wpList P ops Q (o :: rest) a w :=
  wpList_plain hgd fun K hK => by
    obtain ⟨v', w', hrun, h2, h3, h4⟩ := run_append_typed (P := P) w t o.type e i z size bytes ht hi hz hsize hby hzs hsz v n us hq xv m news hr h1 h63 hbytes
    obtain ⟨a', c', rfl, _, _⟩ := h2.form
    unfold Oper.wp execOp
    simp only [ho, resolve, invoke, builtin, Sem.run_bind, Sem.run_pure, Result.andThen_ok, List.map_toArray, List.map_cons, List.map_nil, hs, hx, hrun]
    exact hK _ _ (h a' c' w' h2 h3 h4)
end
/-- What a Clone comes to: a slice of its own, in new blocks. -/
def Cloned (t : TypeId) (sz n : Nat) (us : List Value) (w : World) (e : Ending) (w' : World) : Prop :=
  ∃ a c, e = .returned (.slice a n c) ∧ QRow w' t sz (.slice a n c) n us ∧ (∀ g, (Value.slice a n c).ownBlock = some g → w.heap.size ≤ g ∧ g < w'.heap.size ∧ ∃ c, Blk w' g t c) ∧ Fr nob w w'
theorem QRow.none0 {w : World} {g : Nat} (t : TypeId) (sz : Nat) : QRow w t sz (.slice (some ⟨g, 0, none⟩) 0 0) 0 [] := ⟨by simp, _, 0, rfl, Nat.le_refl _, Nat.zero_le _, .inl ⟨rfl, .inr ⟨_, rfl⟩⟩⟩
theorem Heap.growRow {w0 w wa w' : World} {l : List Piece} (h : Heap w0 w l) (i : Nat) {t : TypeId} {sz n n' : Nat} {v v' : Value} {us us' : List Value} (hi : l[i]? = some (rowP t sz v n us)) (hf : Fr nob w wa)
    (hq : QRow w' t sz v' n' us') (hg : wa.grownBy w' v.ownBlock) (hat : ∀ g, v'.ownBlock = some g → (v.ownBlock = some g ∨ wa.heap.size ≤ g) ∧ ∃ c, Blk w' g t c) : Heap w0 w' (l.set i (rowP t sz v' n' us')) := by
  obtain ⟨S, h1, hs, U⟩ := h.take i hi
  have F : Fr S w w' := (hf.mono (fun k _ (x : nob k) => x.elim)).grown hg (fun k hk => .inl (h1.2 k hk).1)
  refine U (S' := fun k => v'.ownBlock = some k) F ⟨hq, fun g hg => ⟨hg, (hat g hg).2⟩⟩ (fun k hk => ?_)
  obtain ⟨hx, c, hc⟩ := hat k hk
  rcases hx with hx | hx
  · exact .inl (h1.2 k hx).1
  · exact .inr ⟨Nat.le_trans hf.size hx, hc.lt⟩
end Go.Proofs.Ytblijgdmfohfcaa
