/- slices.Clone of pairs, of whole numbers, of references. No condition but that what is read can be read, and the bound of size. -/
import Derived.Test.YtolkpmbmgiplcaaAppT
import Derived.Test.YtolkpmbmgiplcaaMany
import Derived.Test.YtolkpmbmgiplcaaRows
namespace Go.Proofs.Ytolkpmbmgiplcaa
open Go Go.RowKit
set_option linter.unusedVariables false
set_option linter.unusedSimpArgs false
section
variable {P : Program} (w : World)
theorem wpList_append_typed {ops : Array Oper} {rest : List Oper} {o : Oper} {a : Act} {Q : Exit → Act → World → Prop} (hgd : o.guard = none) (s x : Operand) (t : TypeId)
    (ho : o.op = .call { callee := .builtin .append, args := #[s, x], argTypes := #[t, t] })
    (e : TypeId) (i : TypeInfo) (z : Value) (size bytes : Nat) (ht : P.underlying t = some (.slice e)) (hi : P.info? e = some i) (hz : i.zero = some z)
    (hsize : i.size = size) (hby : i.bytes = bytes) (hzs : z.cells.size = size) (hsz : 0 < size)
    (v : Value) (n : Nat) (us : List Value) (hs : a.eval s = v) (hq : QRow w e size v n us)
    (xv : Value) (m : Nat) (news : List Value) (hx : a.eval x = xv) (hr : RdV w xv m size news) (h1 : ∀ u ∈ news, u.oneCell' = true)
    (h63 : n + m ≤ maxLen) (hbytes : (n + m) * bytes ≤ 140737488355328)
    (h : ∀ a' c' w', QRow w' e size (.slice a' (n + m) c') (n + m) (us ++ news) → w.grownBy w' v.ownBlock → (∀ g, (Value.slice a' (n + m) c').ownBlock = some g → (m = 0 ∧ w' = w ∧ Value.slice a' (n + m) c' = v) ∨ ((v.ownBlock = some g ∨ w.heap.size ≤ g) ∧ ∃ c, Blk w' g e c)) → wpList P ops Q rest (a.put o.dst (.slice a' (n + m) c')) w') : wpList P ops Q (o :: rest) a w :=
  wpList_plain hgd fun K hK => by
    obtain ⟨v', w', hrun, h2, h3, h4⟩ := run_append_typed (P := P) w t o.type e i z size bytes ht hi hz hsize hby hzs hsz v n us hq xv m news hr h1 h63 hbytes
    obtain ⟨a', c', rfl, _, _⟩ := h2.form
    unfold Oper.wp execOp
    simp only [ho, resolve, invoke, builtin, Sem.run_bind, Sem.run_pure, Result.andThen_ok, List.map_toArray, List.map_cons, List.map_nil, hs, hx, hrun]
    exact hK _ _ (h a' c' w' h2 h3 h4)
end
/-- What a Clone comes to: a slice of its own, in new blocks. -/
def Cloned (t : TypeId) (sz n : Nat) (us : List Value) (w : World) (e : Ending) (w' : World) : Prop :=
  ∃ a c, e = .returned (.slice a n c) ∧ QRow w' t sz (.slice a n c) n us ∧ (∀ g, (Value.slice a n c).ownBlock = some g → w.heap.size ≤ g ∧ g < w'.heap.size ∧ ∃ c, Blk w' g t c) ∧ Fr nob w w'
theorem QRow.none0 {w : World} {g : Nat} (t : TypeId) (sz : Nat) : QRow w t sz (.slice (some ⟨g, 0, none⟩) 0 0) 0 [] := ⟨by simp, _, 0, rfl, Nat.le_refl _, Nat.zero_le _, .inl ⟨rfl, .inr ⟨_, rfl⟩⟩⟩
theorem info_pair : (Try.prog.info? 47).map (fun i => (i.zero, i.size, i.bytes)) = some (some (.agg #[.int .i64 0, .int .i64 0]), 2, 16) := by kernel_rfl
theorem Clone_pair (v : Value) (n : Nat) (us : List Value) (w : World) (h : RdV w v n 2 us) (h1 : ∀ u ∈ us, u.oneCell' = true) (hn : n ≤ 1000000) : Calls Try.prog 31 #[v] w (Cloned 47 2 n us w) := by
  have he := fun (w : World) (a : Option Addr) (n c : Nat) => Lib.run_eql_slice_nil (P := Try.prog) w 31 47 a n c 0 0 Try.underlying31
  obtain ⟨i0, hi, hz0, hz1, hz2⟩ := info_parts info_pair
  have H := Lib.hid h
  have hmax : 0 + n ≤ maxLen := by unfold maxLen; omega
  have hby : (0 + n) * 16 ≤ 140737488355328 := by omega
  obtain ⟨h0, _, hv⟩ := h
  rcases hv with ⟨rfl, rfl⟩ | ⟨a, c, rfl, _, _⟩
  · obtain rfl : us = [] := List.eq_nil_of_length_eq_zero (by simpa using h0)
    clear h0 h1
    go_enter Try.func31, Try.ntmps31
    go_wp2
    go_ret
    exact ⟨none, 0, rfl, QRow.nil _ _ _, fun g hg => by simp [Value.ownBlock] at hg, Fr.refl _ _⟩
  · clear h0
    go_enter Try.func31, Try.ntmps31
    go_wp2_with (at_builtin; refine wpList_append_typed _ rfl (.tmp 5) (.tmp 6) 31 rfl 47 i0 (.agg #[.int .i64 0, .int .i64 0]) 2 16 Try.underlying31 hi hz0 hz1 hz2 rfl (by decide) (.slice (some ⟨w.heap.size, 0, none⟩) 0 0) 0 [] rfl (QRow.none0 _ _) (.slice (some a) n c) n us rfl (H.out.fr ((Fr.refl nob w).alloc _) (fun _ _ _ x => x)) h1 hmax hby ?_)
    intro a' c' w' q' grow hat
    have F : Fr nob w w' := ((Fr.refl nob w).alloc _).grown grow (fun k hk => .inr (by simp [Value.ownBlock] at hk; omega))
    have FIN := Lib.hid (And.intro q' (And.intro grow hat))
    have hf := Lib.hid F
    clear q' grow hat F h1
    go_wp2
    go_ret
    obtain ⟨q', grow, hat⟩ := FIN.out
    have F := hf.out
    refine ⟨a', c', rfl, by simpa using q', fun g hg => ?_, F⟩
    rcases hat g hg with ⟨_, rfl, rfl, _, _⟩ | ⟨hx, cc, hb⟩
    · simp [Value.ownBlock] at hg
      subst hg
      exact ⟨Nat.le_refl _, by simp, _, Blk.new w _ _⟩
    · refine ⟨?_, hb.lt, cc, hb⟩
      rcases hx with hx | hx
      · simp [Value.ownBlock] at hx; omega
      · try simp at hx
        omega
theorem info_i64 : (Try.prog.info? 2).map (fun i => (i.zero, i.size, i.bytes)) = some (some (.int .i64 0), 1, 8) := by kernel_rfl
theorem Clone_i64 (v : Value) (n : Nat) (us : List Value) (w : World) (h : RdV w v n 1 us) (h1 : ∀ u ∈ us, u.oneCell' = true) (hn : n ≤ 1000000) : Calls Try.prog 32 #[v] w (Cloned 2 1 n us w) := by
  have he := fun (w : World) (a : Option Addr) (n c : Nat) => Lib.run_eql_slice_nil (P := Try.prog) w 32 2 a n c 0 0 Try.underlying32
  obtain ⟨i0, hi, hz0, hz1, hz2⟩ := info_parts info_i64
  have H := Lib.hid h
  have hmax : 0 + n ≤ maxLen := by unfold maxLen; omega
  have hby : (0 + n) * 8 ≤ 140737488355328 := by omega
  obtain ⟨h0, _, hv⟩ := h
  rcases hv with ⟨rfl, rfl⟩ | ⟨a, c, rfl, _, _⟩
  · obtain rfl : us = [] := List.eq_nil_of_length_eq_zero (by simpa using h0)
    clear h0 h1
    go_enter Try.func32, Try.ntmps32
    go_wp2
    go_ret
    exact ⟨none, 0, rfl, QRow.nil _ _ _, fun g hg => by simp [Value.ownBlock] at hg, Fr.refl _ _⟩
  · clear h0
    go_enter Try.func32, Try.ntmps32
    go_wp2_with (at_builtin; refine wpList_append_typed _ rfl (.tmp 5) (.tmp 6) 32 rfl 2 i0 (.int .i64 0) 1 8 Try.underlying32 hi hz0 hz1 hz2 rfl (by decide) (.slice (some ⟨w.heap.size, 0, none⟩) 0 0) 0 [] rfl (QRow.none0 _ _) (.slice (some a) n c) n us rfl (H.out.fr ((Fr.refl nob w).alloc _) (fun _ _ _ x => x)) h1 hmax hby ?_)
    intro a' c' w' q' grow hat
    have F : Fr nob w w' := ((Fr.refl nob w).alloc _).grown grow (fun k hk => .inr (by simp [Value.ownBlock] at hk; omega))
    have FIN := Lib.hid (And.intro q' (And.intro grow hat))
    have hf := Lib.hid F
    clear q' grow hat F h1
    go_wp2
    go_ret
    obtain ⟨q', grow, hat⟩ := FIN.out
    have F := hf.out
    refine ⟨a', c', rfl, by simpa using q', fun g hg => ?_, F⟩
    rcases hat g hg with ⟨_, rfl, rfl, _, _⟩ | ⟨hx, cc, hb⟩
    · simp [Value.ownBlock] at hg
      subst hg
      exact ⟨Nat.le_refl _, by simp, _, Blk.new w _ _⟩
    · refine ⟨?_, hb.lt, cc, hb⟩
      rcases hx with hx | hx
      · simp [Value.ownBlock] at hx; omega
      · try simp at hx
        omega
theorem info_ref : (Try.prog.info? 27).map (fun i => (i.zero, i.size, i.bytes)) = some (some (.int .i64 0), 1, 8) := by kernel_rfl
theorem Clone_ref (v : Value) (n : Nat) (us : List Value) (w : World) (h : RdV w v n 1 us) (h1 : ∀ u ∈ us, u.oneCell' = true) (hn : n ≤ 1000000) : Calls Try.prog 33 #[v] w (Cloned 27 1 n us w) := by
  have he := fun (w : World) (a : Option Addr) (n c : Nat) => Lib.run_eql_slice_nil (P := Try.prog) w 26 27 a n c 0 0 Try.underlying26
  obtain ⟨i0, hi, hz0, hz1, hz2⟩ := info_parts info_ref
  have H := Lib.hid h
  have hmax : 0 + n ≤ maxLen := by unfold maxLen; omega
  have hby : (0 + n) * 8 ≤ 140737488355328 := by omega
  obtain ⟨h0, _, hv⟩ := h
  rcases hv with ⟨rfl, rfl⟩ | ⟨a, c, rfl, _, _⟩
  · obtain rfl : us = [] := List.eq_nil_of_length_eq_zero (by simpa using h0)
    clear h0 h1
    go_enter Try.func33, Try.ntmps33
    go_wp2
    go_ret
    exact ⟨none, 0, rfl, QRow.nil _ _ _, fun g hg => by simp [Value.ownBlock] at hg, Fr.refl _ _⟩
  · clear h0
    go_enter Try.func33, Try.ntmps33
    go_wp2_with (at_builtin; refine wpList_append_typed _ rfl (.tmp 5) (.tmp 6) 26 rfl 27 i0 (.int .i64 0) 1 8 Try.underlying26 hi hz0 hz1 hz2 rfl (by decide) (.slice (some ⟨w.heap.size, 0, none⟩) 0 0) 0 [] rfl (QRow.none0 _ _) (.slice (some a) n c) n us rfl (H.out.fr ((Fr.refl nob w).alloc _) (fun _ _ _ x => x)) h1 hmax hby ?_)
    intro a' c' w' q' grow hat
    have F : Fr nob w w' := ((Fr.refl nob w).alloc _).grown grow (fun k hk => .inr (by simp [Value.ownBlock] at hk; omega))
    have FIN := Lib.hid (And.intro q' (And.intro grow hat))
    have hf := Lib.hid F
    clear q' grow hat F h1
    go_wp2
    go_ret
    obtain ⟨q', grow, hat⟩ := FIN.out
    have F := hf.out
    refine ⟨a', c', rfl, by simpa using q', fun g hg => ?_, F⟩
    rcases hat g hg with ⟨_, rfl, rfl, _, _⟩ | ⟨hx, cc, hb⟩
    · simp [Value.ownBlock] at hg
      subst hg
      exact ⟨Nat.le_refl _, by simp, _, Blk.new w _ _⟩
    · refine ⟨?_, hb.lt, cc, hb⟩
      rcases hx with hx | hx
      · simp [Value.ownBlock] at hx; omega
      · try simp at hx
        omega
end Go.Proofs.Ytolkpmbmgiplcaa
