/- A slice that is appended to at its end and cut at its front: what it owns, what append and the cut make of it. No condition but the bounds of size. -/
import Derived.Test.YtblijgdmfohfcaaBase
import Derived.ArgAppend
import Derived.Deep.RegionLaw
namespace Go.Proofs.Ytblijgdmfohfcaa
open Go Go.RowKit
set_option linter.unusedVariables false
set_option linter.unusedSimpArgs false
/-- The slice v has n elements, whose cells are us; if it has room for any, it lies in a block of its type that is not frozen. -/
def QRow (w : World) (t : TypeId) (sz : Nat) (v : Value) (n : Nat) (us : List Value) : Prop :=
  us.length = n * sz ∧ ∃ a cap, v = .slice a n cap ∧ n ≤ cap ∧ cap ≤ maxLen ∧
    ((cap = 0 ∧ (a = none ∨ ∃ b, a = some b)) ∨ ∃ g off cur, a = some ⟨g, off, none⟩ ∧ Blk w g t cur ∧ off + cap * sz ≤ cur.size ∧ ∀ j u, us[j]? = some u → cur[off + j]? = some u)
theorem QRow.nil (w : World) (t : TypeId) (sz : Nat) : QRow w t sz (.slice none 0 0) 0 [] := ⟨by simp, none, 0, rfl, Nat.le_refl _, Nat.zero_le _, .inl ⟨rfl, .inl rfl⟩⟩
theorem QRow.fr {F : Nat → Prop} {w w' : World} {t : TypeId} {sz : Nat} {v : Value} {n : Nat} {us : List Value} (h : QRow w t sz v n us) (hf : Fr F w w') (hn : ∀ g, v.ownBlock = some g → (∃ c, Blk w g t c) → ¬ F g) : QRow w' t sz v n us := by
  obtain ⟨h0, a, cap, rfl, h1, h2, h3⟩ := h
  refine ⟨h0, a, cap, rfl, h1, h2, ?_⟩
  rcases h3 with h3 | ⟨g, off, cur, rfl, hb, h4, h5⟩
  · exact .inl h3
  · exact .inr ⟨g, off, cur, rfl, hb.fr hf (hn g rfl ⟨_, hb⟩), h4, h5⟩
theorem QRow.of_own {w : World} {B : Nat} {t : TypeId} {sz : Nat} {v : Value} {n : Nat} {us : List Value} (h : w.ownsRow B t sz v n us) : QRow w t sz v n us := by
  refine ⟨h.1, ?_⟩
  rcases h.2 with ⟨rfl, rfl⟩ | ⟨g, cap, cur, rfl, hb, hh, hc, hm, hs, ht⟩
  · exact ⟨none, 0, rfl, Nat.le_refl _, Nat.zero_le _, .inl ⟨rfl, .inl rfl⟩⟩
  · refine ⟨_, cap, rfl, hc, hm, .inr ⟨g, 0, cur, rfl, hh, by omega, fun j u hu => ?_⟩⟩
    rw [← ht, List.getElem?_take] at hu
    split at hu
    · simpa using hu
    · cases hu
/-- What many stores into a block leave. -/
theorem Blk.setCells {t : TypeId} {g : Nat} : ∀ (news : List Value) {w : World} {cur : Array Value} (off : Nat), Blk w g t cur → off + news.length ≤ cur.size →
    ∃ cur', Blk (w.setCells g off news) g t cur' ∧ cur'.size = cur.size ∧ (∀ j, j < off ∨ off + news.length ≤ j → cur'[j]? = cur[j]?) ∧ (∀ j u, news[j]? = some u → cur'[off + j]? = some u)
  | [], w, cur, off, h, _ => ⟨cur, h, rfl, fun _ _ => rfl, fun j u hu => by simp at hu⟩
  | x :: news, w, cur, off, h, hl => by
    simp only [List.length_cons] at hl
    obtain ⟨cur', h1, h2, h3, h4⟩ := Blk.setCells news (off + 1) (h.set off x) (by simp; omega)
    refine ⟨cur', h1, by simpa using h2, fun j hj => ?_, fun j u hu => ?_⟩
    · rw [h3 j (by simp only [List.length_cons] at hj; omega), Array.getElem?_setIfInBounds_ne (by simp only [List.length_cons] at hj; omega)]
    · cases j with
      | zero =>
        simp only [List.getElem?_cons_zero, Option.some.injEq] at hu
        subst hu
        rw [Nat.add_zero, h3 off (by omega), Array.getElem?_setIfInBounds_self_of_lt (by omega)]
      | succ j =>
        simp only [List.getElem?_cons_succ] at hu
        have := h4 j u hu
        rwa [show off + 1 + j = off + (j + 1) from by omega] at this
theorem setCells_other {g : Nat} : ∀ (news : List Value) (w : World) (off k : Nat), k ≠ g → (w.setCells g off news).heap[k]? = w.heap[k]?
  | [], w, off, k, h => rfl
  | x :: news, w, off, k, h => by
    show ((w.setCell ⟨g, off, none⟩ x).setCells g (off + 1) news).heap[k]? = _
    rw [setCells_other news _ (off + 1) k h, Below.heap_setCell _ _ _ _ h]
theorem setCells_rest {g : Nat} : ∀ (news : List Value) (w : World) (off : Nat), (w.setCells g off news).os = w.os ∧ (w.setCells g off news).tape = w.tape ∧ (w.setCells g off news).output = w.output ∧ (w.setCells g off news).heap.size = w.heap.size
  | [], w, off => ⟨rfl, rfl, rfl, rfl⟩
  | x :: news, w, off => by
    obtain ⟨h1, h2, h3, h4⟩ := setCells_rest news (w.setCell ⟨g, off, none⟩ x) (off + 1)
    exact ⟨h1, h2, h3, h4.trans (by simp [World.setCell])⟩
theorem run_append_q {P : Program} (w : World) (t ty e : TypeId) (i : TypeInfo) (z : Value) (size bytes : Nat) (ht : P.underlying t = some (.slice e)) (hi : P.info? e = some i) (hz : i.zero = some z)
    (hsize : i.size = size) (hby : i.bytes = bytes) (hzs : z.cells.size = size) (hsz : 0 < size) (v : Value) (n : Nat) (us : List Value) (hq : QRow w e size v n us)
    (ad : Addr) (m c : Nat) (news : List Value) (hl : news.length = m * size) (hnews : ∀ j u, news[j]? = some u → w.cell? (ad.add j) = some u) (h1 : ∀ u ∈ news, u.oneCell' = true)
    (hm : 0 < m) (h63 : n + m ≤ maxLen) (hbytes : (n + m) * bytes ≤ 140737488355328) :
    ∃ g off cap w', (Builtin.append_ #[t, t] ty #[v, .slice (some ad) m c]).run P w = .ok (.slice (some ⟨g, off, none⟩) (n + m) cap) w' ∧
      QRow w' e size (.slice (some ⟨g, off, none⟩) (n + m) cap) (n + m) (us ++ news) ∧ w.grownBy w' v.ownBlock ∧ (v.ownBlock = some g ∨ w.heap.size ≤ g) ∧ g < w'.heap.size := by
  obtain ⟨h0, a, cap, rfl, hnc, hcm, h3⟩ := hq
  have grow : ∀ b : Addr, a = some b → cap < n + m → (∀ j u, us[j]? = some u → w.cell? (b.add j) = some u) → _ := fun b hb hc hcells => run_append_arg_grows (P := P) w t ty e i z size bytes ht hi hz hsize hby hzs hsz b n cap us h0 hcells ad m c news hl hnews hc h63 hbytes
  have fin : ∀ v' w', w'.ownsRow w.heap.size e size v' (n + m) (us ++ news) → w.grownBy w' none → ∃ g cap', v' = .slice (some ⟨g, 0, none⟩) (n + m) cap' ∧ g = g ∧ w.heap.size ≤ g ∧ g < w'.heap.size := fun v' w' hown hg => by
    obtain ⟨g, cap', hv, hb, hlt⟩ := hown.form (by omega)
    exact ⟨g, cap', hv, rfl, hb, hlt⟩
  by_cases hroom : n + m ≤ cap
  · rcases h3 with ⟨h3, _⟩ | ⟨g, off, cur, rfl, hb, h4, h5⟩
    · omega
    · have hfit : off + n * size + news.length ≤ cur.size := by
        rw [hl]
        have : (n + m) * size ≤ cap * size := Nat.mul_le_mul_right _ hroom
        rw [Nat.add_mul] at this
        omega
      have hc1 : ∀ j, j < news.length → (w.cell? ⟨g, off + n * i.size + j, none⟩).isSome = true := fun j hj => by
        rw [hsize, hb.cell, Array.getElem?_eq_getElem (by omega)]; rfl
      have hc2 : ∀ j, j < news.length → w.frozen? ⟨g, off + n * i.size + j, none⟩ = false := fun j hj => hb.froz _
      have hrun := run_append_room_cells (P := P) w t ty e i ht hi g off n cap ad m c news (by rw [hl, hsize]) hnews h1 hroom hc1 hc2
      rw [hsize] at hrun
      obtain ⟨cur', k1, k2, k3, k4⟩ := Blk.setCells news (off + n * size) hb hfit
      obtain ⟨r1, r2, r3, r4⟩ := setCells_rest (g := g) news w (off + n * size)
      refine ⟨g, off, cap, _, hrun, ⟨by rw [List.length_append, h0, hl, Nat.add_mul], _, cap, rfl, hroom, hcm, .inr ⟨g, off, cur', rfl, k1, by rw [k2]; exact h4, fun j u hu => ?_⟩⟩, ⟨r1, r2, r3, Nat.le_of_eq r4.symm, fun k hk hne => setCells_other news w _ k (fun e => hne (by simp [Value.ownBlock, e]))⟩, .inl rfl, by rw [r4]; exact hb.lt⟩
      by_cases hj : j < us.length
      · rw [List.getElem?_append_left hj] at hu
        rw [k3 _ (by omega)]
        exact h5 j u hu
      · rw [List.getElem?_append_right (by omega)] at hu
        have := k4 _ u hu
        rwa [show off + n * size + (j - us.length) = off + j from by omega] at this
  · have key : ∃ v' w', (Builtin.append_ #[t, t] ty #[.slice a n cap, .slice (some ad) m c]).run P w = .ok v' w' ∧ w'.ownsRow w.heap.size e size v' (n + m) (us ++ news) ∧ w.grownBy w' none := by
      rcases h3 with ⟨rfl, h3⟩ | ⟨g, off, cur, rfl, hb, h4, h5⟩
      · obtain rfl : n = 0 := by omega
        obtain rfl : us = [] := List.eq_nil_of_length_eq_zero (by simpa using h0)
        rcases h3 with rfl | ⟨b, rfl⟩
        · obtain ⟨v', w', r1, r2, r3, _⟩ := run_append_own (P := P) w w.heap.size t ty e i z size bytes ht hi hz hsize hby hzs hsz (.slice none 0 0) 0 [] (World.ownsRow_nil w _ e size) ad m c news hl hnews h1 h63 hbytes (Nat.le_refl _)
          exact ⟨v', w', r1, r2, r3⟩
        · exact grow b rfl (by omega) (fun j u hu => by simp at hu)
      · exact grow _ rfl (by omega) (fun j u hu => by rw [Addr.add_lit, hb.cell]; exact h5 j u hu)
    obtain ⟨v', w', r1, r2, r3⟩ := key
    obtain ⟨g, cap', rfl, _, hb, hlt⟩ := fin v' w' r2 r3
    exact ⟨g, 0, cap', w', r1, QRow.of_own r2, ⟨r3.os, r3.tape, r3.output, r3.size, fun k hk _ => r3.block k hk (by simp)⟩, .inr hb, hlt⟩
section
variable {P : Program} (w : World)
theorem wp_append_q {o : Oper} {a : Act} {K : Act → World → Prop} {Q : Exit → Act → World → Prop} (s x : Operand) (t : TypeId)
    (ho : o.op = .call { callee := .builtin .append, args := #[s, x], argTypes := #[t, t] })
    (e : TypeId) (i : TypeInfo) (z : Value) (size bytes : Nat) (ht : P.underlying t = some (.slice e)) (hi : P.info? e = some i) (hz : i.zero = some z)
    (hsize : i.size = size) (hby : i.bytes = bytes) (hzs : z.cells.size = size) (hsz : 0 < size)
    (v : Value) (n : Nat) (us : List Value) (hs : a.eval s = v) (hq : QRow w e size v n us)
    (ad : Addr) (m c : Nat) (news : List Value) (hx : a.eval x = .slice (some ad) m c) (hl : news.length = m * size) (hnews : ∀ j u, news[j]? = some u → w.cell? (ad.add j) = some u) (h1 : ∀ u ∈ news, u.oneCell' = true)
    (hm : 0 < m) (h63 : n + m ≤ maxLen) (hbytes : (n + m) * bytes ≤ 140737488355328)
    (h : ∀ g off cap w', QRow w' e size (.slice (some ⟨g, off, none⟩) (n + m) cap) (n + m) (us ++ news) → w.grownBy w' v.ownBlock → (v.ownBlock = some g ∨ w.heap.size ≤ g) → g < w'.heap.size → K (a.put o.dst (.slice (some ⟨g, off, none⟩) (n + m) cap)) w') : o.wp P a w K Q := by
  obtain ⟨g, off, cap, w', hr, h2, h3, h4, h5⟩ := run_append_q (P := P) w t o.type e i z size bytes ht hi hz hsize hby hzs hsz v n us hq ad m c news hl hnews h1 hm h63 hbytes
  unfold Oper.wp execOp
  simp only [ho, resolve, invoke, builtin, Sem.run_bind, Sem.run_pure, Result.andThen_ok, List.map_toArray, List.map_cons, List.map_nil, hs, hx, hr]
  exact h g off cap w' h2 h3 h4 h5
theorem wpList_append_q {ops : Array Oper} {rest : List Oper} {o : Oper} {a : Act} {Q : Exit → Act → World → Prop} (hgd : o.guard = none) (s x : Operand) (t : TypeId)
    (ho : o.op = .call { callee := .builtin .append, args := #[s, x], argTypes := #[t, t] })
    (e : TypeId) (i : TypeInfo) (z : Value) (size bytes : Nat) (ht : P.underlying t = some (.slice e)) (hi : P.info? e = some i) (hz : i.zero = some z)
    (hsize : i.size = size) (hby : i.bytes = bytes) (hzs : z.cells.size = size) (hsz : 0 < size)
    (v : Value) (n : Nat) (us : List Value) (hs : a.eval s = v) (hq : QRow w e size v n us)
    (ad : Addr) (m c : Nat) (news : List Value) (hx : a.eval x = .slice (some ad) m c) (hl : news.length = m * size) (hnews : ∀ j u, news[j]? = some u → w.cell? (ad.add j) = some u) (h1 : ∀ u ∈ news, u.oneCell' = true)
    (hm : 0 < m) (h63 : n + m ≤ maxLen) (hbytes : (n + m) * bytes ≤ 140737488355328)
    (h : ∀ g off cap w', QRow w' e size (.slice (some ⟨g, off, none⟩) (n + m) cap) (n + m) (us ++ news) → w.grownBy w' v.ownBlock → (v.ownBlock = some g ∨ w.heap.size ≤ g) → g < w'.heap.size → wpList P ops Q rest (a.put o.dst (.slice (some ⟨g, off, none⟩) (n + m) cap)) w') : wpList P ops Q (o :: rest) a w :=
  wpList_plain hgd fun _ hK => wp_append_q w s x t ho e i z size bytes ht hi hz hsize hby hzs hsz v n us hs hq ad m c news hx hl hnews h1 hm h63 hbytes fun g off cap w' h2 h3 h4 h5 => hK _ _ (h g off cap w' h2 h3 h4 h5)
theorem step_append_q {ops : Array Oper} {o : Oper} {a : Act} {K : Act → World → Prop} {Q : Exit → Act → World → Prop} {E : Prop} (hgd : o.guard = none) (s x : Operand) (t : TypeId)
    (ho : o.op = .call { callee := .builtin .append, args := #[s, x], argTypes := #[t, t] })
    (e : TypeId) (i : TypeInfo) (z : Value) (size bytes : Nat) (ht : P.underlying t = some (.slice e)) (hi : P.info? e = some i) (hz : i.zero = some z)
    (hsize : i.size = size) (hby : i.bytes = bytes) (hzs : z.cells.size = size) (hsz : 0 < size)
    (v : Value) (n : Nat) (us : List Value) (hs : a.eval s = v) (hq : QRow w e size v n us)
    (ad : Addr) (m c : Nat) (news : List Value) (hx : a.eval x = .slice (some ad) m c) (hl : news.length = m * size) (hnews : ∀ j u, news[j]? = some u → w.cell? (ad.add j) = some u) (h1 : ∀ u ∈ news, u.oneCell' = true)
    (hm : 0 < m) (h63 : n + m ≤ maxLen) (hbytes : (n + m) * bytes ≤ 140737488355328)
    (h : ∀ g off cap w', QRow w' e size (.slice (some ⟨g, off, none⟩) (n + m) cap) (n + m) (us ++ news) → w.grownBy w' v.ownBlock → (v.ownBlock = some g ∨ w.heap.size ≤ g) → g < w'.heap.size → K (a.put o.dst (.slice (some ⟨g, off, none⟩) (n + m) cap)) w') :
    if Region.wanted o (yielded ops a.tmps) = true then Oper.wp P o a w K Q else E := by
  have hw : Region.wanted o (yielded ops a.tmps) = true := by simp [Region.wanted, hgd]
  rw [if_pos hw]
  exact wp_append_q w s x t ho e i z size bytes ht hi hz hsize hby hzs hsz v n us hs hq ad m c news hx hl hnews h1 hm h63 hbytes h
end
/-- One element cut at the front. -/
theorem QRow.pop {w : World} {t : TypeId} {sz : Nat} {g off n cap : Nat} {us : List Value} (h : QRow w t sz (.slice (some ⟨g, off, none⟩) (n + 1) cap) (n + 1) us) :
    QRow w t sz (.slice (some ⟨g, off + sz, none⟩) n (cap - 1)) n (us.drop sz) ∧ (cap = 1 → QRow w t sz (.slice (some ⟨g, off, none⟩) n 0) n (us.drop sz)) := by
  obtain ⟨h0, a, c, hv, h1, h2, h3⟩ := h
  simp only [Value.slice.injEq] at hv
  obtain ⟨rfl, _, rfl⟩ := hv
  rcases h3 with ⟨rfl, _⟩ | ⟨g', off', cur, hg, hb, h4, h5⟩
  · omega
  · simp only [Option.some.injEq, Addr.mk.injEq] at hg
    obtain ⟨rfl, rfl, _⟩ := hg
    have hm : (n + 1) * sz = n * sz + sz := Nat.succ_mul n sz
    have hc : cap * sz = (cap - 1) * sz + sz := by
      rw [← Nat.succ_mul]; congr 1; omega
    refine ⟨⟨by rw [List.length_drop, h0]; omega, _, cap - 1, rfl, by omega, by omega, .inr ⟨g, off + sz, cur, rfl, hb, by omega, fun j u hu => ?_⟩⟩, fun hc1 => ?_⟩
    · rw [List.getElem?_drop] at hu
      have := h5 _ u hu
      rwa [show off + sz + j = off + (sz + j) from by omega]
    · subst hc1
      obtain rfl : n = 0 := by omega
      exact ⟨by rw [List.length_drop, h0]; omega, _, 0, rfl, Nat.le_refl _, Nat.zero_le _, .inl ⟨rfl, .inr ⟨_, rfl⟩⟩⟩
/-- What its address is, and its cells. -/
theorem QRow.at {w : World} {t : TypeId} {sz : Nat} {a : Option Addr} {n cap : Nat} {us : List Value} (h : QRow w t sz (.slice a n cap) n us) (hn : 0 < n) : ∃ g off cur, a = some ⟨g, off, none⟩ ∧ Blk w g t cur ∧ n ≤ cap ∧ ∀ j u, us[j]? = some u → w.cell? ⟨g, off + j, none⟩ = some u := by
  obtain ⟨h0, a', c, hv, h1, h2, h3⟩ := h
  simp only [Value.slice.injEq] at hv
  obtain ⟨rfl, _, rfl⟩ := hv
  rcases h3 with ⟨rfl, _⟩ | ⟨g, off, cur, rfl, hb, h4, h5⟩
  · omega
  · exact ⟨g, off, cur, rfl, hb, h1, fun j u hu => by rw [hb.cell]; exact h5 j u hu⟩
theorem QRow.form {w : World} {t : TypeId} {sz : Nat} {v : Value} {n : Nat} {us : List Value} (h : QRow w t sz v n us) : ∃ a cap, v = .slice a n cap ∧ n ≤ cap ∧ cap ≤ maxLen := by
  obtain ⟨h0, a, c, hv, h1, h2, h3⟩ := h
  exact ⟨a, c, hv, h1, h2⟩
end Go.Proofs.Ytblijgdmfohfcaa
