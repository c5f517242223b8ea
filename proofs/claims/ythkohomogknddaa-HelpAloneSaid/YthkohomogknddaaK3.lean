/- The record table: what it is in memory; what each call makes of it. No condition but the bounds of size. -/
import Derived.Test.YthkohomogknddaaRows
import Derived.Test.YthkohomogknddaaK1
import Derived.Deep.RegionLaw
import Derived.Deep.RegionWith
import Derived.Deep.DeepCutAuto
namespace Go.Proofs.Ythkohomogknddaa
open Go Go.RowKit
set_option maxRecDepth 100000
theorem rc_info_ref : (Try.prog.info? 29).map (fun i => (i.zero, i.size, i.bytes)) = some (some (.int .i64 0), 1, 8) := by kernel_rfl
theorem rc_info_i64 : (Try.prog.info? 2).map (fun i => (i.zero, i.size, i.bytes)) = some (some (.int .i64 0), 1, 8) := by kernel_rfl
/-- What a Clone comes to. -/
def RcCloned (t : TypeId) (xs : List Int) (w : World) (e : Ending) (w' : World) : Prop :=
  ∃ a c, e = .returned (.slice a xs.length c) ∧ Row w' w.heap.size t (.slice a xs.length c) xs ∧ Fr nob w w'
theorem form_of {w : World} {B : Nat} {t : TypeId} {v : Value} {n : Nat} {us : List Value} (h : w.ownsRow B t 1 v n us) : ∃ a c, v = .slice a n c := by
  rcases row_cells h with ⟨rfl, rfl, _⟩ | ⟨g, cap, cur, rfl, _⟩
  · exact ⟨none, 0, rfl⟩
  · exact ⟨_, _, rfl⟩
theorem rcClone_ref (v : Value) (xs : List Int) (w : World) (h : Rd w v xs) : Calls Try.prog 80 #[v] w (RcCloned 29 xs w) := by
  have he := fun (w : World) (a : Option Addr) (n c : Nat) => Lib.run_eql_slice_nil (P := Try.prog) w 50 29 a n c 0 0 Try.underlying50
  obtain ⟨i0, hi, hz0, hz1, hz2⟩ := info_parts rc_info_ref
  rcases h with ⟨rfl, rfl⟩ | ⟨a, c, rfl, h1, h2, h3⟩
  · go_enter Try.func80, Try.ntmps80
    go_wp2
    go_ret
    exact ⟨none, 0, rfl, ⟨rfl, .inl ⟨rfl, rfl⟩⟩, Fr.refl _ _⟩
  · have hcells : ∀ j u, (xs.map (Value.int .i64))[j]? = some u → (w.alloc (.cells #[] 29)).cell? (a.add j) = some u := by
      intro j u hu
      have hj : j < xs.length := by
        have := (List.getElem?_eq_some_iff.1 hu).1
        simpa using this
      have hc := h3 j hj
      rw [((Fr.refl nob w).alloc _).cell' hc (fun x => x)]
      rw [List.getElem?_map, List.getElem?_eq_getElem hj] at hu
      simp only [Option.map_some, Option.some.injEq] at hu
      rw [← hu]
      simp [hj]
    have hone : ∀ u ∈ xs.map (Value.int .i64), u.oneCell' = true := by
      intro u hu
      obtain ⟨x, _, rfl⟩ := List.mem_map.1 hu
      rfl
    go_enter Try.func80, Try.ntmps80
    go_wp2_with (at_builtin; refine wpList_append_own _ rfl (.tmp 5) (.tmp 6) 50 rfl w.heap.size 29 i0 (.int .i64 0) 1 8 Try.underlying50 hi hz0 hz1 hz2 rfl (by decide) _ 0 [] rfl ⟨rfl, .inr ⟨w.heap.size, 0, #[], rfl, Nat.le_refl _, heap_alloc_new w _, Nat.le_refl _, Nat.zero_le _, rfl, rfl⟩⟩ a xs.length c (xs.map (Value.int .i64)) rfl (by simp) hcells hone (by unfold maxLen; omega) (by omega) (by simp) ?_)
    intro v' w' hown hgrow hnil
    obtain ⟨a', c', rfl⟩ := form_of hown
    have hf : Fr nob w w' := ((Fr.refl nob w).alloc _).grown hgrow (fun k hk => .inr (by simp [Value.ownBlock] at hk; omega))
    clear hnil hcells hone
    go_wp2
    go_ret
    exact ⟨a', c', rfl, hown, hf⟩
theorem rcClone_i64 (v : Value) (xs : List Int) (w : World) (h : Rd w v xs) : Calls Try.prog 79 #[v] w (RcCloned 2 xs w) := by
  have he := fun (w : World) (a : Option Addr) (n c : Nat) => Lib.run_eql_slice_nil (P := Try.prog) w 35 2 a n c 0 0 Try.underlying35
  obtain ⟨i0, hi, hz0, hz1, hz2⟩ := info_parts rc_info_i64
  rcases h with ⟨rfl, rfl⟩ | ⟨a, c, rfl, h1, h2, h3⟩
  · go_enter Try.func79, Try.ntmps79
    go_wp2
    go_ret
    exact ⟨none, 0, rfl, ⟨rfl, .inl ⟨rfl, rfl⟩⟩, Fr.refl _ _⟩
  · have hcells : ∀ j u, (xs.map (Value.int .i64))[j]? = some u → (w.alloc (.cells #[] 2)).cell? (a.add j) = some u := by
      intro j u hu
      have hj : j < xs.length := by
        have := (List.getElem?_eq_some_iff.1 hu).1
        simpa using this
      have hc := h3 j hj
      rw [((Fr.refl nob w).alloc _).cell' hc (fun x => x)]
      rw [List.getElem?_map, List.getElem?_eq_getElem hj] at hu
      simp only [Option.map_some, Option.some.injEq] at hu
      rw [← hu]
      simp [hj]
    have hone : ∀ u ∈ xs.map (Value.int .i64), u.oneCell' = true := by
      intro u hu
      obtain ⟨x, _, rfl⟩ := List.mem_map.1 hu
      rfl
    go_enter Try.func79, Try.ntmps79
    go_wp2_with (at_builtin; refine wpList_append_own _ rfl (.tmp 5) (.tmp 6) 35 rfl w.heap.size 2 i0 (.int .i64 0) 1 8 Try.underlying35 hi hz0 hz1 hz2 rfl (by decide) _ 0 [] rfl ⟨rfl, .inr ⟨w.heap.size, 0, #[], rfl, Nat.le_refl _, heap_alloc_new w _, Nat.le_refl _, Nat.zero_le _, rfl, rfl⟩⟩ a xs.length c (xs.map (Value.int .i64)) rfl (by simp) hcells hone (by unfold maxLen; omega) (by omega) (by simp) ?_)
    intro v' w' hown hgrow hnil
    obtain ⟨a', c', rfl⟩ := form_of hown
    have hf : Fr nob w w' := ((Fr.refl nob w).alloc _).grown hgrow (fun k hk => .inr (by simp [Value.ownBlock] at hk; omega))
    clear hnil hcells hone
    go_wp2
    go_ret
    exact ⟨a', c', rfl, hown, hf⟩
/-- how many there may be -/
def lim (n : Int) : Int := min (max n 0) 65536
theorem RcNew_calls (n : Int) (w : World) : Calls Try.prog 87 #[.int .i64 n] w fun e w' => e = .returned (.pointer (some ⟨w.heap.size, 0, none⟩)) ∧ w' = w.alloc (.cells #[.slice none 0 0, .int .i64 (lim n)] 134) := by
  go_enter Try.func87, Try.ntmps87
  go_wp2
  all_goals
    go_ret
    refine ⟨rfl, ?_⟩
    first | rw [show lim n = 0 from by unfold lim; omega] | rw [show lim n = 65536 from by unfold lim; omega] | rw [show lim n = n from by unfold lim; omega]
theorem rc_at_nil (n : Int) (w : World) : Calls Try.prog 91 #[.pointer none, .int .i64 n] w fun e w' => e = .returned (.pointer none) ∧ w' = w := by
  go_enter Try.func91, Try.ntmps91
  go_wp2
  go_ret
  exact ⟨rfl, rfl⟩
theorem at_low (t : Nat) (n : Int) (w : World) (h : n < 1) : Calls Try.prog 91 #[.pointer (some ⟨t, 0, none⟩), .int .i64 n] w fun e w' => e = .returned (.pointer none) ∧ w' = w := by
  go_enter Try.func91, Try.ntmps91
  go_wp2
  go_ret
  exact ⟨rfl, rfl⟩
theorem at_high (t : Nat) (n : Int) (w : World) (a : Option Addr) (k c : Nat) (h0 : w.cell? ⟨t, 0, none⟩ = some (.slice a k c)) (h1 : 1 ≤ n) (h : (k : Int) < n) : Calls Try.prog 91 #[.pointer (some ⟨t, 0, none⟩), .int .i64 n] w fun e w' => e = .returned (.pointer none) ∧ w' = w := by
  go_enter Try.func91, Try.ntmps91
  go_wp2
  go_ret
  exact ⟨rfl, rfl⟩
theorem at_in (t : Nat) (n : Int) (w : World) (g k c : Nat) (v : Value) (h0 : w.cell? ⟨t, 0, none⟩ = some (.slice (some ⟨g, 0, none⟩) k c)) (h1 : 1 ≤ n) (h : n ≤ (k : Int)) (hk : k ≤ 65536)
    (h2 : w.cell? ⟨g, n.toNat - 1, none⟩ = some v) : Calls Try.prog 91 #[.pointer (some ⟨t, 0, none⟩), .int .i64 n] w fun e w' => e = .returned v ∧ w' = w := by
  go_enter Try.func91, Try.ntmps91
  go_wp2
  go_ret
  exact ⟨rfl, rfl⟩

/-- A record, its state, whether all nodes are its own. -/
structure Ent where
  nodes : List Int
  infos : List Int
  keep : Int
  way : Int
  old : Int
  new : Int
  st : Int
  all : Bool
/-- An entry's cells. -/
def entC (vn vi : Value) (e : Ent) : Array Value := #[vn, vi, .int .i64 e.keep, .int .i64 e.way, .int .i64 e.old, .int .i64 e.new, .int .u8 e.st, .bool e.all]
/-- An entry at block b; its rows lie among S. -/
def EntAt (w : World) (S : Nat → Prop) (b : Nat) (e : Ent) : Prop :=
  ∃ vn vi, Blk w b 139 (entC vn vi e) ∧ Row w 0 29 vn e.nodes ∧ Row w 0 2 vi e.infos ∧ (∀ g, vn.ownBlock = some g → S g) ∧ (∀ g, vi.ownBlock = some g → S g) ∧
    e.nodes.length * 8 ≤ 140737488355328 ∧ e.infos.length * 8 ≤ 140737488355328
def ptr (b : Nat) : Value := .pointer (some ⟨b, 0, none⟩)
/-- A table at block t whose blocks lie among S: its entries, in order; how many there may be. -/
structure Tab (w : World) (t : Nat) (S : Nat → Prop) (es : List Ent) (most : Int) : Prop where
  body : ∃ (vl : Value) (bs : List Nat), Blk w t 134 #[vl, .int .i64 most] ∧ w.ownsRow 0 136 1 vl es.length (bs.map ptr) ∧ (∀ g, vl.ownBlock = some g → S g) ∧ bs.Nodup ∧ (∀ b ∈ bs, S b) ∧
    (∀ (i : Nat) (e : Ent), es[i]? = some e → ∃ b : Nat, bs[i]? = some b ∧ EntAt w S b e)
  here : S t
  lt : ∀ k, S k → k < w.heap.size
  few : (es.length : Int) ≤ max most 0
  top : most ≤ 65536
theorem EntAt.fr {S S' F : Nat → Prop} {w w' : World} {b : Nat} {e : Ent} (h : EntAt w S b e) (hf : Fr F w w') (hb : ¬ F b)
    (hn : ∀ k t c, S k → Blk w k t c → t = 29 ∨ t = 2 → ¬ F k) (hs : ∀ k, S k → S' k) : EntAt w' S' b e := by
  obtain ⟨vn, vi, h1, h2, h3, h4, h5, h6⟩ := h
  refine ⟨vn, vi, h1.fr hf hb, ownsRow_fr h2 hf (fun g hg => ?_), ownsRow_fr h3 hf (fun g hg => ?_), fun g hg => hs g (h4 g hg), fun g hg => hs g (h5 g hg), h6⟩
  · obtain ⟨_, c, hc⟩ := ownsRow_block h2 hg
    exact hn g _ c (h4 g hg) hc (.inl rfl)
  · obtain ⟨_, c, hc⟩ := ownsRow_block h3 hg
    exact hn g _ c (h5 g hg) hc (.inr rfl)
/-- What does not touch its blocks leaves a table as it is. -/
theorem Tab.fr {S F : Nat → Prop} {w w' : World} {t : Nat} {es : List Ent} {most : Int} (h : Tab w t S es most) (hf : Fr F w w') (hn : ∀ k, S k → ¬ F k) : Tab w' t S es most := by
  obtain ⟨⟨vl, bs, h1, h2, h3, h4, h5, h6⟩, hh, hl, hw, ht⟩ := h
  refine ⟨⟨vl, bs, h1.fr hf (hn _ hh), ownsRow_fr h2 hf (fun g hg => hn g (h3 g hg)), h3, h4, h5, fun i e he => ?_⟩, hh, fun k hk => Nat.lt_of_lt_of_le (hl k hk) hf.size, hw, ht⟩
  obtain ⟨b, hb, ha⟩ := h6 i e he
  exact ⟨b, hb, ha.fr hf (hn _ (h5 b (List.mem_of_getElem? hb))) (fun k _ _ hk _ _ => hn k hk) (fun _ x => x)⟩
theorem Tab.more {S S' : Nat → Prop} {w : World} {t : Nat} {es : List Ent} {most : Int} (h : Tab w t S es most) (hs : ∀ k, S k → S' k) (hl : ∀ k, S' k → k < w.heap.size) : Tab w t S' es most := by
  obtain ⟨⟨vl, bs, h1, h2, h3, h4, h5, h6⟩, hh, _, hw, ht⟩ := h
  refine ⟨⟨vl, bs, h1, h2, fun g hg => hs g (h3 g hg), h4, fun b hb => hs b (h5 b hb), fun i e he => ?_⟩, hs _ hh, hl, hw, ht⟩
  obtain ⟨b, hb, ha⟩ := h6 i e he
  exact ⟨b, hb, ha.fr (Fr.refl nob w) (fun x => x) (fun _ _ _ _ _ _ x => x) hs⟩
theorem ptr_ne {a b : Nat} : ptr a = ptr b ↔ a = b := by simp [ptr]
set_option linter.unusedVariables false in
/-- A table with one more entry. -/
theorem Tab_push {w wc w1 : World} {t : Nat} {S : Nat → Prop} {es : List Ent} {most : Int} {e : Ent} {al : Option Addr} {cl : Nat} {bs : List Nat} {M gg cap : Nat} {vn vi : Value}
    (h1 : Blk w t 134 #[.slice al es.length cl, .int .i64 most]) (h2 : w.ownsRow 0 136 1 (.slice al es.length cl) es.length (bs.map ptr)) (h3 : ∀ g, (Value.slice al es.length cl).ownBlock = some g → S g)
    (h4 : bs.Nodup) (h5 : ∀ b ∈ bs, S b) (h6 : ∀ (i : Nat) (e : Ent), es[i]? = some e → ∃ b : Nat, bs[i]? = some b ∧ EntAt w S b e) (hh : S t) (hl : ∀ k, S k → k < w.heap.size) (hr : (es.length : Int) < most) (ht : most ≤ 65536)
    (F2 : Fr nob w wc) (rn : Row wc w.heap.size 29 vn e.nodes) (ri : Row wc w.heap.size 2 vi e.infos) (ln : e.nodes.length * 8 ≤ 140737488355328) (li : e.infos.length * 8 ≤ 140737488355328) (hM : wc.heap.size = M)
    (hgrow : ((wc.drew.alloc (.cells (entC vn vi e) 139)).alloc (.cells #[ptr M] 136)).grownBy w1 (Value.slice al es.length cl).ownBlock)
    (hown1 : w1.ownsRow 0 136 1 (.slice (some ⟨gg, 0, none⟩) (es.length + 1) cap) (es.length + 1) (bs.map ptr ++ [ptr M])) (hat : (Value.slice al es.length cl).ownBlock = some gg ∨ gg = M + 2) (hlt : gg < w1.heap.size) :
    Fr S w (w1.setCell ⟨t, 0, none⟩ (.slice (some ⟨gg, 0, none⟩) (es.length + 1) cap)) ∧
    Tab (w1.setCell ⟨t, 0, none⟩ (.slice (some ⟨gg, 0, none⟩) (es.length + 1) cap)) t (wide S w (w1.setCell ⟨t, 0, none⟩ (.slice (some ⟨gg, 0, none⟩) (es.length + 1) cap))) (es ++ [e]) most := by
  have F3 : Fr nob w ((wc.drew.alloc (.cells (entC vn vi e) 139)).alloc (.cells #[ptr M] 136)) := (F2.drew.alloc _).alloc _
  have E3 : Blk ((wc.drew.alloc (.cells (entC vn vi e) 139)).alloc (.cells #[ptr M] 136)) M 139 (entC vn vi e) := (Blk.new' (by simpa using hM) _ _).alloc _
  have s3 : ((wc.drew.alloc (.cells (entC vn vi e) 139)).alloc (.cells #[ptr M] 136)).heap.size = M + 2 := by simp [hM]
  have rn3 : Row ((wc.drew.alloc (.cells (entC vn vi e) 139)).alloc (.cells #[ptr M] 136)) w.heap.size 29 vn e.nodes := ownsRow_fr rn ((((Fr.refl nob _).drew).alloc _).alloc _) (fun _ _ x => x)
  have ri3 : Row ((wc.drew.alloc (.cells (entC vn vi e) 139)).alloc (.cells #[ptr M] 136)) w.heap.size 2 vi e.infos := ownsRow_fr ri ((((Fr.refl nob _).drew).alloc _).alloc _) (fun _ _ x => x)
  have hMw : w.heap.size ≤ M := by rw [← hM]; exact F2.size
  generalize ((wc.drew.alloc (.cells (entC vn vi e) 139)).alloc (.cells #[ptr M] 136)) = w3 at *
  -- what may have changed between w and w3, w1, the end
  have Fg : Fr (fun k => (Value.slice al es.length cl).ownBlock = some k) w3 w1 := (Fr.refl _ _).grown hgrow (fun k hk => .inl hk)
  generalize hw' : w1.setCell ⟨t, 0, none⟩ (.slice (some ⟨gg, 0, none⟩) (es.length + 1) cap) = w'
  have Fs : Fr (fun k => k = t) w1 w' := by rw [← hw']; exact (Fr.refl (fun k => k = t) w1).setCell (p := ⟨t, 0, none⟩) (.inl rfl) _
  have F' : Fr (fun k => k = t ∨ (Value.slice al es.length cl).ownBlock = some k) w w' :=
    ((F3.mono (fun _ _ x => x.elim)).trans Fg (fun k _ hk => .inr hk)).trans Fs (fun k _ hk => .inl hk)
  have s1 : M + 2 ≤ w1.heap.size := by rw [← s3]; exact Fg.size
  have s' : w'.heap.size = w1.heap.size := by rw [← hw']; simp [World.setCell]
  -- t is none of the others
  have tg : ∀ g, (Value.slice al es.length cl).ownBlock = some g → g ≠ t := by
    intro g hg
    obtain ⟨_, c, hc⟩ := ownsRow_block h2 hg
    exact hc.ne h1 (by decide)
  have t1 : Blk w1 t 134 #[.slice al es.length cl, .int .i64 most] := (h1.fr F3 (fun x => x)).fr Fg (fun hk => tg t hk rfl)
  have tgg : gg ≠ t := by
    obtain ⟨_, c, hc⟩ := ownsRow_block hown1 (g := gg) rfl
    exact hc.ne t1 (by decide)
  have t' : Blk w' t 134 #[.slice (some ⟨gg, 0, none⟩) (es.length + 1) cap, .int .i64 most] := by rw [← hw']; exact t1.set 0 _
  have tlt := h1.lt
  refine ⟨F'.mono (fun k _ hk => ?_), ⟨⟨.slice (some ⟨gg, 0, none⟩) (es.length + 1) cap, bs ++ [M], t', ?_, ?_, ?_, ?_, ?_⟩, .inl hh, ?_, ?_, ht⟩⟩
  · rcases hk with rfl | hk
    · exact hh
    · exact h3 k hk
  · rw [List.length_append, List.map_append]
    exact ownsRow_fr hown1 Fs (fun g hg hx => by simp [Value.ownBlock] at hg; omega)
  · intro g hg
    simp [Value.ownBlock] at hg
    subst hg
    rcases hat with hat | hat
    · exact .inl (h3 _ hat)
    · exact .inr ⟨by omega, by omega⟩
  · rw [List.nodup_append]
    refine ⟨h4, by simp, fun a ha b hb => ?_⟩
    have := hl a (h5 a ha)
    simp at hb
    omega
  · intro b hb
    rcases List.mem_append.1 hb with hb | hb
    · exact .inl (h5 b hb)
    · simp at hb
      exact .inr ⟨by omega, by omega⟩
  · intro i x hx
    by_cases hi : i < es.length
    · rw [List.getElem?_append_left hi] at hx
      obtain ⟨b, hb, ha⟩ := h6 i x hx
      have hbl : i < bs.length := (List.getElem?_eq_some_iff.1 hb).1
      refine ⟨b, by rw [List.getElem?_append_left hbl]; exact hb, ha.fr F' ?_ ?_ (fun k hk => .inl hk)⟩
      · obtain ⟨vn', vi', hB, _⟩ := ha
        rintro (rfl | hg)
        · exact hB.ne h1 (by decide) rfl
        · obtain ⟨_, c, hc⟩ := ownsRow_block h2 hg
          exact hB.ne hc (by decide) rfl
      · rintro k T c _ hB hT (rfl | hg)
        · exact hB.ne h1 (by rcases hT with rfl | rfl <;> decide) rfl
        · obtain ⟨_, c', hc⟩ := ownsRow_block h2 hg
          exact hB.ne hc (by rcases hT with rfl | rfl <;> decide) rfl
    · have hlb : bs.length = es.length := by have := h2.1; simpa using this
      have hi' : i = es.length := by
        have := (List.getElem?_eq_some_iff.1 hx).1
        simp at this; omega
      subst hi'
      simp at hx
      subst hx
      have bound : ∀ k, w.heap.size ≤ k → ¬ (k = t ∨ (Value.slice al es.length cl).ownBlock = some k) := by
        rintro k hk (rfl | hg)
        · omega
        · have := hl k (h3 k hg); omega
      have FM : Fr (fun k => k = t ∨ (Value.slice al es.length cl).ownBlock = some k) w3 w' := (Fg.mono (fun _ _ x => .inr x)).trans Fs (fun k _ hk => .inl hk)
      refine ⟨M, by rw [← hlb]; simp, vn, vi, E3.fr FM (bound M hMw), ownsRow_base (ownsRow_fr rn3 FM (fun g hg => bound g (ownsRow_block rn3 hg).1)) (Nat.zero_le _), ownsRow_base (ownsRow_fr ri3 FM (fun g hg => bound g (ownsRow_block ri3 hg).1)) (Nat.zero_le _), ?_, ?_, ln, li⟩
      · intro g hg
        obtain ⟨hb, c, hc⟩ := ownsRow_block rn3 hg
        exact .inr ⟨hb, Nat.lt_of_lt_of_le hc.lt FM.size⟩
      · intro g hg
        obtain ⟨hb, c, hc⟩ := ownsRow_block ri3 hg
        exact .inr ⟨hb, Nat.lt_of_lt_of_le hc.lt FM.size⟩
  · rintro k (hk | hk)
    · exact Nat.lt_of_lt_of_le (hl k hk) F'.size
    · exact hk.2
  · rw [List.length_append]; simp; omega
end Go.Proofs.Ythkohomogknddaa
namespace Go.Proofs.Ythkohomogknddaa
open Go Go.RowKit
set_option maxRecDepth 100000
set_option linter.unusedVariables false
set_option linter.unusedSimpArgs false
theorem info_ent : (Try.prog.info? 136).map (fun i => (i.zero, i.size, i.bytes)) = some (some (.pointer none), 1, 8) := by kernel_rfl
/-- Behind 'r.Nodes, r.Infos = slices.Clone(r.Nodes), slices.Clone(r.Infos)'. -/
theorem cloned_fin {W1 w2 w3 : World} {H : Nat} {x0 x1 x2 x3 x4 x5 : Value} {a2 a3 : Option Addr} {c2 c3 : Nat} {nodes infos : List Int} (B1 : Blk W1 H 78 #[x0, x1, x2, x3, x4, x5]) (f1 : Fr nob W1.drew w2) (f2 : Fr nob w2 w3)
    (row2 : Row w2 W1.heap.size 29 (.slice a2 nodes.length c2) nodes) (row3 : Row w3 w2.heap.size 2 (.slice a3 infos.length c3) infos) :
    Fr (fun k => k = H) W1 ((w3.setCell ⟨H, 0, none⟩ (.slice a2 nodes.length c2)).setCell ⟨H, 1, none⟩ (.slice a3 infos.length c3)) ∧
    Blk ((w3.setCell ⟨H, 0, none⟩ (.slice a2 nodes.length c2)).setCell ⟨H, 1, none⟩ (.slice a3 infos.length c3)) H 78 #[.slice a2 nodes.length c2, .slice a3 infos.length c3, x2, x3, x4, x5] ∧
    Row ((w3.setCell ⟨H, 0, none⟩ (.slice a2 nodes.length c2)).setCell ⟨H, 1, none⟩ (.slice a3 infos.length c3)) W1.heap.size 29 (.slice a2 nodes.length c2) nodes ∧
    Row ((w3.setCell ⟨H, 0, none⟩ (.slice a2 nodes.length c2)).setCell ⟨H, 1, none⟩ (.slice a3 infos.length c3)) W1.heap.size 2 (.slice a3 infos.length c3) infos := by
  have lH := B1.lt
  have e2 : Fr nob W1 w3 := f1.undrew.trans f2 (fun _ _ x => x)
  have B3 : Blk w3 H 78 _ := B1.fr e2 (fun x => x)
  have g0 : Fr (fun k => k = H) w3 ((w3.setCell ⟨H, 0, none⟩ (.slice a2 nodes.length c2)).setCell ⟨H, 1, none⟩ (.slice a3 infos.length c3)) := ((Fr.refl (fun k => k = H) w3).setCell (p := ⟨H, 0, none⟩) (.inl rfl) _).setCell (p := ⟨H, 1, none⟩) (.inl rfl) _
  have s2 := f1.undrew.size
  refine ⟨(e2.mono (fun _ _ x => x.elim)).trans g0 (fun k _ x => x), (B3.set 0 _).set 1 _, ?_, ?_⟩
  · exact ownsRow_fr (ownsRow_fr row2 f2 (fun _ _ x => x)) g0 (fun g hg x => by have := (ownsRow_block row2 hg).1; omega)
  · exact ownsRow_base (ownsRow_fr row3 g0 (fun g hg x => by have := (ownsRow_block row3 hg).1; omega)) s2
set_option maxHeartbeats 1000000 in
set_option maxRecDepth 100000 in
theorem Make_yes (t : Nat) (S : Nat → Prop) (es : List Ent) (most : Int) (vn vi : Value) (nodes infos : List Int) (keep way old new : Int) (w : World) (h : Tab w t S es most) (hrn : Rd w vn nodes) (hri : Rd w vi infos)
    (hlen : nodes.length = infos.length) (hk : 0 ≤ keep) (hr : (es.length : Int) < most) :
    Calls Try.prog 59 #[ptr t, .agg #[vn, vi, .int .i64 keep, .int .i64 way, .int .i64 old, .int .i64 new]] w fun e w' =>
      e = .returned (.tuple #[.int .i64 ((es.length : Int) + 1), .bool true]) ∧ Fr S w w' ∧ Tab w' t (wide S w w') (es ++ [⟨nodes, infos, keep, way, old, new, 1, false⟩]) most := by
  obtain ⟨⟨vl, bs, h1, h2, h3, h4, h5, h6⟩, hh, hl, hw, ht⟩ := h
  obtain ⟨al, cl, rfl⟩ := form_of h2
  obtain ⟨an, cn, rfl⟩ := hrn.len
  obtain ⟨ai, ci, rfl⟩ := hri.len
  have c0 : w.cell? ⟨t, 0, none⟩ = some (.slice al es.length cl) := h1.cell 0
  have c1 : w.cell? ⟨t, 1, none⟩ = some (.int .i64 most) := h1.cell 1
  have hlt : t < w.heap.size := h1.lt
  have g1 : ((nodes.length : Int) != (infos.length : Int)) = false := by rw [hlen]; simp
  have g2 : decide (keep < 0) = false := by simp; omega
  have g3 : decide (most ≤ (es.length : Int)) = false := by simp; omega
  have Hlen := Lib.hid hlen
  clear hlen
  unfold ptr
  go_enter Try.func59, Try.ntmps59
  go_wp2_with fail
  go_quiet (fail)
  go_wp2_with fail
  generalize hW1 : (w.alloc (Obj.cells #[Value.slice an nodes.length cn, Value.slice ai infos.length ci, Value.int IntKind.i64 keep, Value.int IntKind.i64 way, Value.int IntKind.i64 old, Value.int IntKind.i64 new] 78)).drewN nq = W1
  have F1 : Fr nob w W1 := by rw [← hW1]; exact ((Fr.refl _ _).alloc _).drewN _
  have B1 : Blk W1 w.heap.size 78 #[Value.slice an nodes.length cn, Value.slice ai infos.length ci, Value.int IntKind.i64 keep, Value.int IntKind.i64 way, Value.int IntKind.i64 old, Value.int IntKind.i64 new] := by rw [← hW1]; exact (Blk.new _ _ _).drewN _
  have hs1 : W1.heap.size = w.heap.size + 1 := by rw [← hW1]; simp
  have HW1 := Lib.hid hW1
  clear hW1
  have b0 : W1.cell? ⟨w.heap.size, 0, none⟩ = some (Value.slice an nodes.length cn) := B1.cell 0
  have b1 : W1.cell? ⟨w.heap.size, 1, none⟩ = some (Value.slice ai infos.length ci) := B1.cell 1
  have r1 : Rd W1 (Value.slice an nodes.length cn) nodes := hrn.fr F1 (fun _ _ _ x => x)
  have r2 : Rd W1 (Value.slice ai infos.length ci) infos := hri.fr F1 (fun _ _ _ x => x)
  have lb : w.heap.size < W1.heap.size := by omega
  generalize hH : w.heap.size = H at *
  have HH := Lib.hid hH
  clear hH
  have z0 : W1.frozen? ⟨H, 0, none⟩ = false := B1.froz 0
  have z1 : W1.frozen? ⟨H, 1, none⟩ = false := B1.froz 1
  go_cut [] (fun wx => ∃ a2 c2 a3 c3, Fr nob w wx ∧ Blk wx H 78 #[Value.slice a2 nodes.length c2, Value.slice a3 infos.length c3, Value.int IntKind.i64 keep, Value.int IntKind.i64 way, Value.int IntKind.i64 old, Value.int IntKind.i64 new] ∧
      Row wx H 29 (.slice a2 nodes.length c2) nodes ∧ Row wx H 2 (.slice a3 infos.length c3) infos)
  case first =>
    go_region_with (first
      | (go_at_call 80; refine (rcClone_ref _ nodes _ (by exact r1)).mono ?_; rintro e w2 ⟨a2, c2, rfl, row2, f1⟩; have y1 := f1.undrew.cell' b1 (fun x => x))
      | (go_at_call 79; refine (rcClone_i64 _ infos _ (by exact r2.fr f1.undrew (fun _ _ _ x => x))).mono ?_; rintro e w3 ⟨a3, c3, rfl, row3, f2⟩; have g3 := f1.undrew.trans f2 (fun _ _ x => x); have y2 := g3.cell' b0 (fun x => x); have y3 := g3.cell' b1 (fun x => x); have y4 := g3.froz' b0 z0 (fun x => x); have y5 := g3.froz' b1 z1 (fun x => x)))
    all_goals
      go_wp2_with fail
      go_meet
      obtain ⟨g4, g5, g6, g7⟩ := cloned_fin B1 f1 f2 row2 row3
      exact ⟨a2, c2, a3, c3, F1.trans g4 (fun k hk hx => by have := HH.out; omega), g5, ownsRow_base g6 (Nat.le_of_lt lb), ownsRow_base g7 (Nat.le_of_lt lb)⟩
  case rest =>
    obtain ⟨a2, c2, a3, c3, F2, B2, row2, row3⟩ := hcut
    have T2 := h1.fr F2 (fun x => x)
    have O2 := ownsRow_fr h2 F2 (fun _ _ x => x)
    have lt : t < wc.heap.size := T2.lt
    have lH : H < wc.heap.size := B2.lt
    have k0 : wc.cell? ⟨t, 0, none⟩ = some (.slice al es.length cl) := T2.cell 0
    have d0 : wc.cell? ⟨H, 0, none⟩ = some (Value.slice a2 nodes.length c2) := B2.cell 0
    have d1 : wc.cell? ⟨H, 1, none⟩ = some (Value.slice a3 infos.length c3) := B2.cell 1
    have d2 : wc.cell? ⟨H, 2, none⟩ = some (Value.int IntKind.i64 keep) := B2.cell 2
    have d3 : wc.cell? ⟨H, 3, none⟩ = some (Value.int IntKind.i64 way) := B2.cell 3
    have d4 : wc.cell? ⟨H, 4, none⟩ = some (Value.int IntKind.i64 old) := B2.cell 4
    have d5 : wc.cell? ⟨H, 5, none⟩ = some (Value.int IntKind.i64 new) := B2.cell 5
    obtain ⟨i0, hi, hz0, hz1, hz2⟩ := info_parts info_ent
    have hlm : es.length + 1 ≤ maxLen := by unfold maxLen; omega
    have hlb : (es.length + 1) * 8 ≤ 140737488355328 := by omega
    have hnt : (Value.slice al es.length cl).ownBlock ≠ some t := fun hx => by
      obtain ⟨_, c, hc⟩ := ownsRow_block h2 hx
      exact hc.ne h1 (by decide) rfl
    have KEEP := Lib.hid (And.intro h1 (And.intro h2 (And.intro h3 (And.intro h4 (And.intro h5 (And.intro h6 (And.intro hl (And.intro hrn.short hri.short))))))))
    clear h6 h5 h4 h3 hw hl hrn hri r1 r2 b0 b1 z0 z1 B1
    clear g1 g2 g3 c0 c1
    go_wp2_with fail
    go_region_law ((refine step_append_lies _ (by rfl) _ _ _ (by rfl) 0 136 i0 (.pointer none) 1 8 Try.underlying132 hi hz0 hz1 hz2 rfl (by decide) (.slice al es.length cl) es.length (bs.map ptr) (by rfl) (((O2.drew).alloc _).alloc _) ⟨wc.heap.size + 1, 0, none⟩ 1 1 [ptr wc.heap.size] (by rfl) (by rfl) (World.news_of_block (cs := #[ptr wc.heap.size]) (t := 136) (fr := (0, 0)) (by exact Blk.new' (by simp) _ _)) (by simp [Value.oneCell', ptr]) (by decide) hlm hlb (Nat.zero_le _) (wc.heap.size + 2) (by simp) ?_; intro gg cap w1 hown1 hgrow hat hlt; have T4 := (((T2.drew).alloc _).alloc _).grown hgrow hnt; have y0 : w1.cell? ⟨t, 0, none⟩ = some (.slice al es.length cl) := T4.cell 0; have y1 : w1.frozen? ⟨t, 0, none⟩ = false := T4.froz 0))
    all_goals
      obtain ⟨h1, h2, h3, h4, h5, h6, hl, hsn, hsi⟩ := KEEP.out
      have P := Tab_push (e := ⟨nodes, infos, keep, way, old, new, 1, false⟩) h1 h2 h3 h4 h5 h6 hh (by rw [HH.out]; exact hl) hr ht F2 (by rw [HH.out]; exact row2) (by rw [HH.out]; exact row3) hsn hsi rfl hgrow hown1 hat hlt
      have PP := Lib.hid P
      clear P h6 h5 h4 h3 hl hat hown1 hgrow KEEP
      go_wp2
      go_ret2
      exact ⟨rfl, PP.out⟩
end Go.Proofs.Ythkohomogknddaa
namespace Go.Proofs.Ythkohomogknddaa
open Go Go.RowKit
set_option maxRecDepth 100000
set_option linter.unusedVariables false
set_option linter.unusedSimpArgs false
set_option maxRecDepth 100000 in
theorem Make_nil (vn vi : Value) (nodes infos : List Int) (keep way old new : Int) (w : World) (hrn : Rd w vn nodes) (hri : Rd w vi infos) :
    Calls Try.prog 59 #[.pointer none, .agg #[vn, vi, .int .i64 keep, .int .i64 way, .int .i64 old, .int .i64 new]] w fun e w' =>
      e = .returned (.tuple #[.int .i64 0, .bool false]) ∧ Fr nob w w' := by
  obtain ⟨an, cn, rfl⟩ := hrn.len
  obtain ⟨ai, ci, rfl⟩ := hri.len
  go_enter Try.func59, Try.ntmps59
  go_wp2_with fail
  go_quiet (fail)
  go_wp2_with fail
  go_ret2
  exact ⟨rfl, ((Fr.refl _ _).alloc _).drewN _⟩
set_option maxRecDepth 100000 in
theorem Make_no (t : Nat) (S : Nat → Prop) (es : List Ent) (most : Int) (vn vi : Value) (nodes infos : List Int) (keep way old new : Int) (w : World) (h : Tab w t S es most) (hrn : Rd w vn nodes) (hri : Rd w vi infos)
    (hno : nodes.length ≠ infos.length ∨ keep < 0 ∨ most ≤ (es.length : Int)) :
    Calls Try.prog 59 #[ptr t, .agg #[vn, vi, .int .i64 keep, .int .i64 way, .int .i64 old, .int .i64 new]] w fun e w' =>
      e = .returned (.tuple #[.int .i64 0, .bool false]) ∧ Fr nob w w' := by
  obtain ⟨⟨vl, bs, h1, h2, h3, h4, h5, h6⟩, hh, hl, hw, ht⟩ := h
  obtain ⟨al, cl, rfl⟩ := form_of h2
  obtain ⟨an, cn, rfl⟩ := hrn.len
  obtain ⟨ai, ci, rfl⟩ := hri.len
  have c0 : w.cell? ⟨t, 0, none⟩ = some (.slice al es.length cl) := h1.cell 0
  have c1 : w.cell? ⟨t, 1, none⟩ = some (.int .i64 most) := h1.cell 1
  have hlt : t < w.heap.size := h1.lt
  clear h1 h2 h3 h4 h5 h6 hrn hri hl hw
  unfold ptr
  by_cases q1 : nodes.length = infos.length
  · have g1 : ((nodes.length : Int) != (infos.length : Int)) = false := by rw [q1]; simp
    have Q1 := Lib.hid q1
    clear q1
    by_cases q2 : keep < 0
    · have g2 : decide (keep < 0) = true := by simp; omega
      go_enter Try.func59, Try.ntmps59
      go_wp2_with fail
      go_quiet (fail)
      go_wp2_with fail
      go_ret2
      exact ⟨rfl, ((Fr.refl _ _).alloc _).drewN _⟩
    · have g2 : decide (keep < 0) = false := by simp; omega
      have g3 : decide (most ≤ (es.length : Int)) = true := by have := Q1.out; simp; omega
      go_enter Try.func59, Try.ntmps59
      go_wp2_with fail
      go_quiet (fail)
      go_wp2_with fail
      go_ret2
      exact ⟨rfl, ((Fr.refl _ _).alloc _).drewN _⟩
  · have g1 : ((nodes.length : Int) != (infos.length : Int)) = true := by simp; omega
    go_enter Try.func59, Try.ntmps59
    go_wp2_with fail
    go_quiet (fail)
    go_wp2_with fail
    go_ret2
    exact ⟨rfl, ((Fr.refl _ _).alloc _).drewN _⟩
theorem RcLen_calls (t : Nat) (S : Nat → Prop) (es : List Ent) (most : Int) (w : World) (h : Tab w t S es most) : Calls Try.prog 49 #[ptr t] w fun e w' => e = .returned (.int .i64 es.length) ∧ w' = w := by
  obtain ⟨⟨vl, bs, h1, h2, h3, h4, h5, h6⟩, hh, hl, hw, ht⟩ := h
  obtain ⟨al, cl, rfl⟩ := form_of h2
  have c0 : w.cell? ⟨t, 0, none⟩ = some (.slice al es.length cl) := h1.cell 0
  clear h1 h2 h3 h4 h5 h6 hl hw
  unfold ptr
  go_enter Try.func49, Try.ntmps49
  go_wp2_with fail
  go_ret
  exact ⟨rfl, rfl⟩
theorem RcLen_nil (w : World) : Calls Try.prog 49 #[.pointer none] w fun e w' => e = .returned (.int .i64 0) ∧ w' = w := by
  go_enter Try.func49, Try.ntmps49
  go_wp2_with fail
  go_ret
  exact ⟨rfl, rfl⟩
/-- at, of a number that is no record's. -/
theorem rc_at_none {t : Nat} {S : Nat → Prop} {es : List Ent} {most : Int} {w : World} (h : Tab w t S es most) (n : Int) (hn : n < 1 ∨ (es.length : Int) < n) : Calls Try.prog 91 #[ptr t, .int .i64 n] w fun e w' => e = .returned (.pointer none) ∧ w' = w := by
  obtain ⟨⟨vl, bs, h1, h2, h3, h4, h5, h6⟩, hh, hl, hw, ht⟩ := h
  obtain ⟨al, cl, rfl⟩ := form_of h2
  have c0 : w.cell? ⟨t, 0, none⟩ = some (.slice al es.length cl) := h1.cell 0
  by_cases h : n < 1
  · exact at_low t n w h
  · exact at_high t n w al es.length cl c0 (by omega) (by omega)
/-- at, of a record's number: its block; and what stays true when only that block's last two cells change. -/
theorem rc_at_some {t : Nat} {S : Nat → Prop} {es : List Ent} {most : Int} {w : World} (h : Tab w t S es most) (i : Nat) (e0 : Ent) (he : es[i]? = some e0) :
    ∃ b, (∀ w', Fr nob w w' → Calls Try.prog 91 #[ptr t, .int .i64 ((i : Int) + 1)] w' fun e w'' => e = .returned (ptr b) ∧ w'' = w') ∧ S b ∧ EntAt w S b e0 ∧
      ∀ (o : Nat) (v : Value) (e1 : Ent), (∀ vn vi, (entC vn vi e0).setIfInBounds o v = entC vn vi e1) → e1.nodes = e0.nodes → e1.infos = e0.infos → Tab (w.setCell ⟨b, o, none⟩ v) t S (es.set i e1) most := by
  obtain ⟨⟨vl, bs, h1, h2, h3, h4, h5, h6⟩, hh, hl, hw, ht⟩ := h
  have hi : i < es.length := (List.getElem?_eq_some_iff.1 he).1
  obtain ⟨b, hb, ha⟩ := h6 i e0 he
  rcases row_cells h2 with ⟨_, h0, _⟩ | ⟨g, cap, cur, rfl, _, hg, hc, _, _, _, hj⟩
  · omega
  refine ⟨b, ?_, h5 b (List.mem_of_getElem? hb), ha, ?_⟩
  · intro w' F
    refine at_in t _ w' g es.length cap (ptr b) ((h1.fr F (fun x => x)).cell 0) (by omega) (by omega) (by omega) ?_
    have e1 : ((i : Int) + 1).toNat - 1 = i := by omega
    rw [e1, (hg.fr F (fun x => x)).cell, hj i hi, List.getElem?_map, hb]
    rfl
  · intro o v e1 hset hn hi'
    obtain ⟨vn, vi, hB, hr1, hr2, hs1, hs2, hl1, hl2⟩ := ha
    have F : Fr (fun k => k = b) w (w.setCell ⟨b, o, none⟩ v) := (Fr.refl (fun k => k = b) w).setCell (p := ⟨b, o, none⟩) (.inl rfl) v
    have ht' : b ≠ t := hB.ne h1 (by decide)
    have hgb : b ≠ g := hB.ne hg (by decide)
    refine ⟨⟨.slice (some ⟨g, 0, none⟩) es.length cap, bs, h1.fr F (fun x => ht' x.symm), ?_, h3, h4, h5, ?_⟩, hh, ?_, ?_, ht⟩
    · rw [List.length_set]
      exact ownsRow_fr h2 F (fun k hk hx => by simp [Value.ownBlock] at hk; omega)
    · intro j x hx
      by_cases hij : i = j
      · subst hij
        rw [List.getElem?_set_self hi] at hx
        simp only [Option.some.injEq] at hx
        subst hx
        refine ⟨b, hb, vn, vi, ?_, ?_, ?_, hs1, hs2, by rw [hn]; exact hl1, by rw [hi']; exact hl2⟩
        · rw [← hset vn vi]; exact hB.set o v
        · rw [hn]; exact ownsRow_fr hr1 F (fun k hk hx => by obtain ⟨_, c, hc⟩ := ownsRow_block hr1 hk; exact hc.ne hB (by decide) hx)
        · rw [hi']; exact ownsRow_fr hr2 F (fun k hk hx => by obtain ⟨_, c, hc⟩ := ownsRow_block hr2 hk; exact hc.ne hB (by decide) hx)
      · rw [List.getElem?_set_ne hij] at hx
        obtain ⟨b', hb', ha'⟩ := h6 j x hx
        refine ⟨b', hb', ha'.fr F (fun hx => ?_) ?_ (fun _ x => x)⟩
        · subst hx
          have hli : i < bs.length := (List.getElem?_eq_some_iff.1 hb).1
          exact hij ((List.getElem?_inj hli h4).1 (hb.trans hb'.symm))
        · rintro k T c _ hk hT rfl
          exact hk.ne hB (by rcases hT with rfl | rfl <;> decide) rfl
    · intro k hk; simpa [World.setCell] using hl k hk
    · rw [List.length_set]; exact hw
end Go.Proofs.Ythkohomogknddaa
namespace Go.Proofs.Ythkohomogknddaa
open Go Go.RowKit
set_option maxRecDepth 100000
set_option linter.unusedVariables false
set_option linter.unusedSimpArgs false
theorem ent_st (vn vi : Value) (e : Ent) (s : Int) : (entC vn vi e).setIfInBounds 6 (.int .u8 s) = entC vn vi { e with st := s } := rfl
theorem ent_all (vn vi : Value) (e : Ent) (s : Bool) : (entC vn vi e).setIfInBounds 7 (.bool s) = entC vn vi { e with all := s } := rfl
/-- The entry of number n. -/
def entOf (es : List Ent) (n : Int) : Option Ent := if 1 ≤ n then es[n.toNat - 1]? else none
theorem entOf_none {es : List Ent} {n : Int} (h : entOf es n = none) : n < 1 ∨ (es.length : Int) < n := by
  unfold entOf at h
  split at h
  · have := List.getElem?_eq_none_iff.1 h; omega
  · omega
theorem entOf_some {es : List Ent} {n : Int} {e : Ent} (h : entOf es n = some e) : ∃ i : Nat, n = (i : Int) + 1 ∧ es[i]? = some e := by
  unfold entOf at h
  split at h
  · exact ⟨n.toNat - 1, by omega, h⟩
  · cases h
theorem State_calls {t : Nat} {S : Nat → Prop} {es : List Ent} {most : Int} {w : World} (h : Tab w t S es most) (n : Int) :
    Calls Try.prog 56 #[ptr t, .int .i64 n] w fun e w' => e = .returned (.int .u8 (((entOf es n).map Ent.st).getD 0)) ∧ w' = w := by
  cases he : entOf es n with
  | none =>
    have ha := Lib.hid (rc_at_none h n (entOf_none he))
    clear he h
    unfold ptr at *
    go_enter Try.func56, Try.ntmps56
    go_wp2_with (go_at_call 91; refine ha.out.mono ?_; rintro e w' ⟨rfl, rfl⟩)
    go_ret
    exact ⟨rfl, rfl⟩
  | some e0 =>
    obtain ⟨i, rfl, hi⟩ := entOf_some he
    obtain ⟨b, ha, _, ⟨vn, vi, hB, _⟩, _⟩ := rc_at_some h i e0 hi
    replace ha := ha w (Fr.refl _ _)
    have c0 : w.cell? ⟨b, 6, none⟩ = some (.int .u8 e0.st) := hB.cell 6
    have ha := Lib.hid ha
    clear he h hi hB
    unfold ptr at *
    go_enter Try.func56, Try.ntmps56
    go_wp2_with (go_at_call 91; refine ha.out.mono ?_; rintro e w' ⟨rfl, rfl⟩)
    go_ret
    exact ⟨rfl, rfl⟩
theorem All_calls {t : Nat} {S : Nat → Prop} {es : List Ent} {most : Int} {w : World} (h : Tab w t S es most) (n : Int) :
    Calls Try.prog 61 #[ptr t, .int .i64 n] w fun e w' => e = .returned (.bool (((entOf es n).map Ent.all).getD false)) ∧ w' = w := by
  cases he : entOf es n with
  | none =>
    have ha := Lib.hid (rc_at_none h n (entOf_none he))
    clear he h
    unfold ptr at *
    go_enter Try.func61, Try.ntmps61
    go_wp2_with (go_at_call 91; refine ha.out.mono ?_; rintro e w' ⟨rfl, rfl⟩)
    go_ret
    exact ⟨rfl, rfl⟩
  | some e0 =>
    obtain ⟨i, rfl, hi⟩ := entOf_some he
    obtain ⟨b, ha, _, ⟨vn, vi, hB, _⟩, _⟩ := rc_at_some h i e0 hi
    replace ha := ha w (Fr.refl _ _)
    have c0 : w.cell? ⟨b, 7, none⟩ = some (.bool e0.all) := hB.cell 7
    have ha := Lib.hid ha
    clear he h hi hB
    unfold ptr at *
    go_enter Try.func61, Try.ntmps61
    go_wp2_with (go_at_call 91; refine ha.out.mono ?_; rintro e w' ⟨rfl, rfl⟩)
    go_ret
    exact ⟨rfl, rfl⟩
/-- The entries when number n's entry is another one. -/
def putOf (es : List Ent) (n : Int) (f : Ent → Ent) : List Ent := match entOf es n with
  | none => es
  | some e => es.set (n.toNat - 1) (f e)
theorem Set_calls {t : Nat} {S : Nat → Prop} {es : List Ent} {most : Int} {w : World} (h : Tab w t S es most) (n s : Int) :
    Calls Try.prog 105 #[ptr t, .int .i64 n, .int .u8 s] w fun e w' => e = .returned (.tuple #[]) ∧ Fr S w w' ∧ Tab w' t S (putOf es n fun e => { e with st := s }) most := by
  unfold putOf
  cases he : entOf es n with
  | none =>
    have ha := Lib.hid (rc_at_none h n (entOf_none he))
    have H := Lib.hid h
    clear he h
    unfold ptr at *
    go_enter Try.func105, Try.ntmps105
    go_wp2_with (go_at_call 91; refine ha.out.mono ?_; rintro e w' ⟨rfl, rfl⟩)
    go_end0
    exact ⟨rfl, Fr.refl _ _, H.out⟩
  | some e0 =>
    obtain ⟨i, rfl, hi⟩ := entOf_some he
    obtain ⟨b, ha, hS, ⟨vn, vi, hB, _⟩, hput⟩ := rc_at_some h i e0 hi
    replace ha := ha w (Fr.refl _ _)
    have c0 : w.cell? ⟨b, 6, none⟩ = some (.int .u8 e0.st) := hB.cell 6
    have f0 : w.frozen? ⟨b, 6, none⟩ = false := hB.froz 6
    have ha := Lib.hid ha
    have H := Lib.hid (hput 6 (.int .u8 s) { e0 with st := s } (fun vn vi => ent_st vn vi e0 s) rfl rfl)
    clear he h hi hB hput
    unfold ptr at *
    go_enter Try.func105, Try.ntmps105
    go_wp2_with (go_at_call 91; refine ha.out.mono ?_; rintro e w' ⟨rfl, rfl⟩)
    go_end0
    refine ⟨rfl, (Fr.refl _ _).setCell (.inl hS) _, ?_⟩
    have e1 : ((i : Int) + 1).toNat - 1 = i := by omega
    rw [e1]
    exact H.out
theorem SetAll_calls {t : Nat} {S : Nat → Prop} {es : List Ent} {most : Int} {w : World} (h : Tab w t S es most) (n : Int) :
    Calls Try.prog 62 #[ptr t, .int .i64 n] w fun e w' => e = .returned (.tuple #[]) ∧ Fr S w w' ∧ Tab w' t S (putOf es n fun e => { e with all := true }) most := by
  unfold putOf
  cases he : entOf es n with
  | none =>
    have ha := Lib.hid (rc_at_none h n (entOf_none he))
    have H := Lib.hid h
    clear he h
    unfold ptr at *
    go_enter Try.func62, Try.ntmps62
    go_wp2_with (go_at_call 91; refine ha.out.mono ?_; rintro e w' ⟨rfl, rfl⟩)
    go_end0
    exact ⟨rfl, Fr.refl _ _, H.out⟩
  | some e0 =>
    obtain ⟨i, rfl, hi⟩ := entOf_some he
    obtain ⟨b, ha, hS, ⟨vn, vi, hB, _⟩, hput⟩ := rc_at_some h i e0 hi
    replace ha := ha w (Fr.refl _ _)
    have c0 : w.cell? ⟨b, 7, none⟩ = some (.bool e0.all) := hB.cell 7
    have f0 : w.frozen? ⟨b, 7, none⟩ = false := hB.froz 7
    have ha := Lib.hid ha
    have H := Lib.hid (hput 7 (.bool true) { e0 with all := true } (fun vn vi => ent_all vn vi e0 true) rfl rfl)
    clear he h hi hB hput
    unfold ptr at *
    go_enter Try.func62, Try.ntmps62
    go_wp2_with (go_at_call 91; refine ha.out.mono ?_; rintro e w' ⟨rfl, rfl⟩)
    go_end0
    refine ⟨rfl, (Fr.refl _ _).setCell (.inl hS) _, ?_⟩
    have e1 : ((i : Int) + 1).toNat - 1 = i := by omega
    rw [e1]
    exact H.out
theorem State_nil (n : Int) (w : World) : Calls Try.prog 56 #[.pointer none, .int .i64 n] w fun e w' => e = .returned (.int .u8 0) ∧ w' = w := by
  have ha := Lib.hid (rc_at_nil n w)
  go_enter Try.func56, Try.ntmps56
  go_wp2_with (go_at_call 91; refine ha.out.mono ?_; rintro e w' ⟨rfl, rfl⟩)
  go_ret
  exact ⟨rfl, rfl⟩
theorem All_nil (n : Int) (w : World) : Calls Try.prog 61 #[.pointer none, .int .i64 n] w fun e w' => e = .returned (.bool false) ∧ w' = w := by
  have ha := Lib.hid (rc_at_nil n w)
  go_enter Try.func61, Try.ntmps61
  go_wp2_with (go_at_call 91; refine ha.out.mono ?_; rintro e w' ⟨rfl, rfl⟩)
  go_ret
  exact ⟨rfl, rfl⟩
theorem Set_nil (n s : Int) (w : World) : Calls Try.prog 105 #[.pointer none, .int .i64 n, .int .u8 s] w fun e w' => e = .returned (.tuple #[]) ∧ w' = w := by
  have ha := Lib.hid (rc_at_nil n w)
  go_enter Try.func105, Try.ntmps105
  go_wp2_with (go_at_call 91; refine ha.out.mono ?_; rintro e w' ⟨rfl, rfl⟩)
  go_end0
  exact ⟨rfl, rfl⟩
theorem SetAll_nil (n : Int) (w : World) : Calls Try.prog 62 #[.pointer none, .int .i64 n] w fun e w' => e = .returned (.tuple #[]) ∧ w' = w := by
  have ha := Lib.hid (rc_at_nil n w)
  go_enter Try.func62, Try.ntmps62
  go_wp2_with (go_at_call 91; refine ha.out.mono ?_; rintro e w' ⟨rfl, rfl⟩)
  go_end0
  exact ⟨rfl, rfl⟩
end Go.Proofs.Ythkohomogknddaa
namespace Go.Proofs.Ythkohomogknddaa
open Go Go.RowKit
set_option maxRecDepth 100000
set_option linter.unusedVariables false
set_option linter.unusedSimpArgs false
/-- A record as it is told: what its two rows and its four numbers are. -/
def Told (w : World) (B : Nat) (v : Value) (nodes infos : List Int) (keep way old new : Int) : Prop :=
  ∃ a2 c2 a3 c3, v = .agg #[.slice a2 nodes.length c2, .slice a3 infos.length c3, .int .i64 keep, .int .i64 way, .int .i64 old, .int .i64 new] ∧
    Row w B 29 (.slice a2 nodes.length c2) nodes ∧ Row w B 2 (.slice a3 infos.length c3) infos
def zeroEnt : Ent := ⟨[], [], 0, 0, 0, 0, 0, false⟩
theorem Look_none {t : Nat} {S : Nat → Prop} {es : List Ent} {most : Int} {w : World} (h : Tab w t S es most) (n : Int) (he : entOf es n = none) :
    Calls Try.prog 94 #[ptr t, .int .i64 n] w fun e w' => ∃ v, e = .returned v ∧ Told w' w.heap.size v [] [] 0 0 0 0 ∧ Fr nob w w' := by
  have hlt : t < w.heap.size := by obtain ⟨⟨vl, bs, h1, _⟩, _⟩ := h; exact h1.lt
  have ha := Lib.hid (fun (o : Obj) => rc_at_none (h.fr ((Fr.refl nob w).alloc o) (fun _ _ x => x)) n (entOf_none he))
  clear he h
  unfold ptr at *
  go_enter Try.func94, Try.ntmps94
  go_wp2_with (go_at_call 91; refine (ha.out _).mono ?_; rintro e w' ⟨rfl, rfl⟩)
  refine bodyPost_ret (v := .agg #[.slice none 0 0, .slice none 0 0, .int .i64 0, .int .i64 0, .int .i64 0, .int .i64 0]) (by simp [results, Try.results94, go_sem]) rfl ⟨_, rfl, ⟨none, 0, none, 0, rfl, ⟨rfl, .inl ⟨rfl, rfl⟩⟩, ⟨rfl, .inl ⟨rfl, rfl⟩⟩⟩, (Fr.refl _ _).alloc _⟩
set_option maxHeartbeats 1600000 in
set_option maxRecDepth 100000 in
theorem Look_some {t : Nat} {S : Nat → Prop} {es : List Ent} {most : Int} {w : World} (h : Tab w t S es most) (n : Int) (e0 : Ent) (he : entOf es n = some e0) :
    Calls Try.prog 94 #[ptr t, .int .i64 n] w fun e w' => ∃ v, e = .returned v ∧ Told w' w.heap.size v e0.nodes e0.infos e0.keep e0.way e0.old e0.new ∧ Fr nob w w' := by
  obtain ⟨i, rfl, hi⟩ := entOf_some he
  have hlt : t < w.heap.size := by obtain ⟨⟨vl, bs, h1, _⟩, _⟩ := h; exact h1.lt
  obtain ⟨b, ha, hS, ⟨vn, vi, hB, hr1, hr2, _, _, hl1, hl2⟩, _⟩ := rc_at_some h i e0 hi
  obtain ⟨an, cn, rfl⟩ := form_of hr1
  obtain ⟨ai, ci, rfl⟩ := form_of hr2
  have Q1 := Lib.hid (fun W1 (F1 : Fr nob w W1) => (hr1.rd hl1).fr F1 (fun _ _ _ x => x))
  have Q2 := Lib.hid (fun W1 (F1 : Fr nob w W1) => (hr2.rd hl2).fr F1 (fun _ _ _ x => x))
  obtain ⟨nodes, infos, keep, way, old, new, st, all⟩ := e0
  dsimp only at *
  have d0 := hB.cell 0
  have d1 := hB.cell 1
  have d2 := hB.cell 2
  have d3 := hB.cell 3
  have d4 := hB.cell 4
  have d5 := hB.cell 5
  simp [entC] at d0 d1 d2 d3 d4 d5
  have lb := hB.lt
  have ha := Lib.hid ha
  clear he h hi hB hr1 hr2
  unfold ptr at *
  go_enter Try.func94, Try.ntmps94
  go_wp2_with (go_at_call 91; refine (ha.out _ ((Fr.refl nob w).alloc _)).mono ?_; rintro e w' ⟨rfl, rfl⟩)
  refine wp_seal (fun W1 => Fr nob w W1 ∧ Blk W1 w.heap.size 78 #[.slice none 0 0, .slice none 0 0, .int .i64 0, .int .i64 0, .int .i64 0, .int .i64 0] ∧ Blk W1 (w.heap.size + 1) 78 #[.slice an nodes.length cn, .slice ai infos.length ci, .int .i64 keep, .int .i64 way, .int .i64 old, .int .i64 new])
    ⟨((Fr.refl _ _).alloc _).alloc _, (Blk.new _ _ _).alloc _, Blk.new' (by simp) _ _⟩ ?_
  rintro W1 ⟨F1, B0, B1⟩
  replace q1 : Rd W1 (Value.slice an nodes.length cn) nodes := Q1.out W1 F1
  replace q2 : Rd W1 (Value.slice ai infos.length ci) infos := Q2.out W1 F1
  have b0 : W1.cell? ⟨w.heap.size + 1, 0, none⟩ = some (Value.slice an nodes.length cn) := B1.cell 0
  have b1 : W1.cell? ⟨w.heap.size + 1, 1, none⟩ = some (Value.slice ai infos.length ci) := B1.cell 1
  have z0 : W1.frozen? ⟨w.heap.size + 1, 0, none⟩ = false := B1.froz 0
  have z1 : W1.frozen? ⟨w.heap.size + 1, 1, none⟩ = false := B1.froz 1
  have lb1 := B1.lt
  go_cut [] (fun wx => ∃ a2 c2 a3 c3, Fr nob w wx ∧ Blk wx w.heap.size 78 #[.slice none 0 0, .slice none 0 0, .int .i64 0, .int .i64 0, .int .i64 0, .int .i64 0] ∧ Blk wx (w.heap.size + 1) 78 #[Value.slice a2 nodes.length c2, Value.slice a3 infos.length c3, Value.int IntKind.i64 keep, Value.int IntKind.i64 way, Value.int IntKind.i64 old, Value.int IntKind.i64 new] ∧
      Row wx (w.heap.size + 2) 29 (.slice a2 nodes.length c2) nodes ∧ Row wx (w.heap.size + 2) 2 (.slice a3 infos.length c3) infos)
  case first =>
    go_region_with (first
      | (go_at_call 80; refine (rcClone_ref _ nodes _ (by exact q1)).mono ?_; rintro e w2 ⟨a2, c2, rfl, row2, f1⟩; have y1 := f1.undrew.cell' b1 (fun x => x))
      | (go_at_call 79; refine (rcClone_i64 _ infos _ (by exact q2.fr f1.undrew (fun _ _ _ x => x))).mono ?_; rintro e w3 ⟨a3, c3, rfl, row3, f2⟩; have g3 := f1.undrew.trans f2 (fun _ _ x => x); have y2 := g3.cell' b0 (fun x => x); have y3 := g3.cell' b1 (fun x => x); have y4 := g3.froz' b0 z0 (fun x => x); have y5 := g3.froz' b1 z1 (fun x => x)))
    all_goals
      go_wp2_with fail
      go_meet
      obtain ⟨g4, g5, g6, g7⟩ := cloned_fin B1 f1 f2 row2 row3
      exact ⟨a2, c2, a3, c3, F1.trans g4 (fun k hk hx => by omega), B0.fr g4 (by omega), g5, ownsRow_base g6 (by omega), ownsRow_base g7 (by omega)⟩
  case rest =>
    obtain ⟨a2, c2, a3, c3, F2, B2, B3, row2, row3⟩ := hcut
    have k0 : wc.cell? ⟨w.heap.size + 1, 0, none⟩ = some (Value.slice a2 nodes.length c2) := B3.cell 0
    have k1 : wc.cell? ⟨w.heap.size + 1, 1, none⟩ = some (Value.slice a3 infos.length c3) := B3.cell 1
    have k2 : wc.cell? ⟨w.heap.size + 1, 2, none⟩ = some (.int .i64 keep) := B3.cell 2
    have k3 : wc.cell? ⟨w.heap.size + 1, 3, none⟩ = some (.int .i64 way) := B3.cell 3
    have k4 : wc.cell? ⟨w.heap.size + 1, 4, none⟩ = some (.int .i64 old) := B3.cell 4
    have k5 : wc.cell? ⟨w.heap.size + 1, 5, none⟩ = some (.int .i64 new) := B3.cell 5
    have m0 : wc.cell? ⟨w.heap.size, 0, none⟩ = some (.slice none 0 0) := B2.cell 0
    have m1 : wc.cell? ⟨w.heap.size, 1, none⟩ = some (.slice none 0 0) := B2.cell 1
    have m2 : wc.cell? ⟨w.heap.size, 2, none⟩ = some (.int .i64 0) := B2.cell 2
    have m3 : wc.cell? ⟨w.heap.size, 3, none⟩ = some (.int .i64 0) := B2.cell 3
    have m4 : wc.cell? ⟨w.heap.size, 4, none⟩ = some (.int .i64 0) := B2.cell 4
    have m5 : wc.cell? ⟨w.heap.size, 5, none⟩ = some (.int .i64 0) := B2.cell 5
    have n0 : wc.frozen? ⟨w.heap.size, 0, none⟩ = false := B2.froz 0
    have n1 : wc.frozen? ⟨w.heap.size, 1, none⟩ = false := B2.froz 1
    have n2 : wc.frozen? ⟨w.heap.size, 2, none⟩ = false := B2.froz 2
    have n3 : wc.frozen? ⟨w.heap.size, 3, none⟩ = false := B2.froz 3
    have n4 : wc.frozen? ⟨w.heap.size, 4, none⟩ = false := B2.froz 4
    have n5 : wc.frozen? ⟨w.heap.size, 5, none⟩ = false := B2.froz 5
    clear d0 d1 d2 d3 d4 d5 q1 q2 b0 b1 z0 z1 ha Q1 Q2 B1 lb lb1
    go_wp2
    have B5 := (((((B2.set 0 (.slice a2 nodes.length c2)).set 1 (.slice a3 infos.length c3)).set 2 (.int .i64 keep)).set 3 (.int .i64 way)).set 4 (.int .i64 old)).set 5 (.int .i64 new)
    have F5 := ((((((Fr.refl (fun k => k = w.heap.size) wc).setCell (p := ⟨w.heap.size, 0, none⟩) (.inl rfl) (.slice a2 nodes.length c2)).setCell (p := ⟨w.heap.size, 1, none⟩) (.inl rfl) (.slice a3 infos.length c3)).setCell (p := ⟨w.heap.size, 2, none⟩) (.inl rfl) (.int .i64 keep)).setCell (p := ⟨w.heap.size, 3, none⟩) (.inl rfl) (.int .i64 way)).setCell (p := ⟨w.heap.size, 4, none⟩) (.inl rfl) (.int .i64 old)).setCell (p := ⟨w.heap.size, 5, none⟩) (.inl rfl) (.int .i64 new)
    generalize ((((((wc.setCell { block := w.heap.size, off := 0 } (Value.slice a2 nodes.length c2)).setCell { block := w.heap.size, off := 1 } (Value.slice a3 infos.length c3)).setCell { block := w.heap.size, off := 2 } (Value.int IntKind.i64 keep)).setCell { block := w.heap.size, off := 3 } (Value.int IntKind.i64 way)).setCell { block := w.heap.size, off := 4 } (Value.int IntKind.i64 old)).setCell { block := w.heap.size, off := 5 } (Value.int IntKind.i64 new)) = W5 at *
    have p0 := B5.cell 0
    have p1 := B5.cell 1
    have p2 := B5.cell 2
    have p3 := B5.cell 3
    have p4 := B5.cell 4
    have p5 := B5.cell 5
    simp at p0 p1 p2 p3 p4 p5
    refine bodyPost_ret (v := .agg #[.slice a2 nodes.length c2, .slice a3 infos.length c3, .int .i64 keep, .int .i64 way, .int .i64 old, .int .i64 new]) (by simp [results, Try.results94, go_sem, p0, p1, p2, p3, p4, p5]) rfl ⟨_, rfl, ⟨a2, c2, a3, c3, rfl, ?_, ?_⟩, F2.trans F5 (fun k hk hx => by omega)⟩
    · exact ownsRow_base (ownsRow_fr row2 F5 (fun g hg hx => by have := (ownsRow_block row2 hg).1; omega)) (by omega)
    · exact ownsRow_base (ownsRow_fr row3 F5 (fun g hg hx => by have := (ownsRow_block row3 hg).1; omega)) (by omega)
theorem RcLook_nil (n : Int) (w : World) :
    Calls Try.prog 94 #[.pointer none, .int .i64 n] w fun e w' => ∃ v, e = .returned v ∧ Told w' w.heap.size v [] [] 0 0 0 0 ∧ Fr nob w w' := by
  have ha := Lib.hid (fun (o : Obj) => rc_at_nil n (w.alloc o))
  go_enter Try.func94, Try.ntmps94
  go_wp2_with (go_at_call 91; refine (ha.out _).mono ?_; rintro e w' ⟨rfl, rfl⟩)
  refine bodyPost_ret (v := .agg #[.slice none 0 0, .slice none 0 0, .int .i64 0, .int .i64 0, .int .i64 0, .int .i64 0]) (by simp [results, Try.results94, go_sem]) rfl ⟨_, rfl, ⟨none, 0, none, 0, rfl, ⟨rfl, .inl ⟨rfl, rfl⟩⟩, ⟨rfl, .inl ⟨rfl, rfl⟩⟩⟩, (Fr.refl _ _).alloc _⟩
/-- What an entry of number n is, or the zero one. -/
theorem Look_calls {t : Nat} {S : Nat → Prop} {es : List Ent} {most : Int} {w : World} (h : Tab w t S es most) (n : Int) (e0 : Ent) (he : (entOf es n).getD zeroEnt = e0) :
    Calls Try.prog 94 #[ptr t, .int .i64 n] w fun e w' => ∃ v, e = .returned v ∧ Told w' w.heap.size v e0.nodes e0.infos e0.keep e0.way e0.old e0.new ∧ Fr nob w w' := by
  cases hx : entOf es n with
  | none => rw [hx] at he; subst he; exact Look_none h n hx
  | some e => rw [hx] at he; simp at he; subst he; exact Look_some h n e hx
end Go.Proofs.Ythkohomogknddaa
namespace Go.Proofs.Ythkohomogknddaa
open Go Go.RowKit
set_option maxRecDepth 100000
set_option linter.unusedVariables false
set_option linter.unusedSimpArgs false
theorem Tab_new (n : Int) (w : World) : Tab (w.alloc (.cells #[.slice none 0 0, .int .i64 (lim n)] 134)) w.heap.size (wide nob w (w.alloc (.cells #[.slice none 0 0, .int .i64 (lim n)] 134))) [] (lim n) := by
  refine ⟨⟨.slice none 0 0, [], Blk.new _ _ _, ⟨rfl, .inl ⟨rfl, rfl⟩⟩, fun g hg => by simp [Value.ownBlock] at hg, List.nodup_nil, fun b hb => by simp at hb, fun i e h => by simp at h⟩, .inr ⟨Nat.le_refl _, by simp⟩, ?_, ?_, ?_⟩
  · rintro k (hk | hk)
    · exact hk.elim
    · exact hk.2
  · unfold lim; simp; omega
  · unfold lim; omega
theorem New_tab (n : Int) (w : World) : Calls Try.prog 87 #[.int .i64 n] w fun e w' => e = .returned (.pointer (some ⟨w.heap.size, 0, none⟩)) ∧ Fr nob w w' ∧ Tab w' w.heap.size (wide nob w w') [] (lim n) := by
  refine (RcNew_calls n w).mono ?_
  rintro e w' ⟨rfl, rfl⟩
  exact ⟨rfl, (Fr.refl _ _).alloc _, Tab_new n w⟩
theorem wide_wide {S : Nat → Prop} {a b c : World} (h1 : a.heap.size ≤ b.heap.size) (h2 : b.heap.size ≤ c.heap.size) (k : Nat) : wide (wide S a b) b c k ↔ wide S a c k := by
  unfold wide
  constructor
  · rintro ((h | h) | h)
    · exact .inl h
    · exact .inr ⟨h.1, by omega⟩
    · exact .inr ⟨by omega, h.2⟩
  · rintro (h | h)
    · exact .inl (.inl h)
    · by_cases hb : k < b.heap.size
      · exact .inl (.inr ⟨h.1, hb⟩)
      · exact .inr ⟨by omega, h.2⟩
/-- A table: its entries, how many there may be. -/
structure Rt where
  es : List Ent
  most : Int
/-- What doesn't change of a record. -/
structure Rc where
  nodes : List Int
  infos : List Int
  keep : Int
  way : Int
  old : Int
  new : Int
def noRc : Rc := ⟨[], [], 0, 0, 0, 0⟩
def Ent.rc (e : Ent) : Rc := ⟨e.nodes, e.infos, e.keep, e.way, e.old, e.new⟩
def Rc.ent (r : Rc) : Ent := ⟨r.nodes, r.infos, r.keep, r.way, r.old, r.new, 1, false⟩
def stateRt (n : Int) (r : Rt) : Int := ((entOf r.es n).map Ent.st).getD 0
def allRt (n : Int) (r : Rt) : Bool := ((entOf r.es n).map Ent.all).getD false
def setRt (n s : Int) (r : Rt) : Rt := { r with es := putOf r.es n fun e => { e with st := s } }
def setAllRt (n : Int) (r : Rt) : Rt := { r with es := putOf r.es n fun e => { e with all := true } }
def lookRt (n : Int) (r : Rt) : Rc := ((entOf r.es n).map Ent.rc).getD noRc
def makeRt (c : Rc) (r : Rt) : (Int × Bool) × Rt :=
  if c.nodes.length = c.infos.length ∧ 0 ≤ c.keep ∧ (r.es.length : Int) < r.most then (((r.es.length : Int) + 1, true), { r with es := r.es ++ [c.ent] }) else ((0, false), r)
def tabP (t : Nat) (r : Rt) : Piece := ⟨fun w S => Tab w t S r.es r.most, fun h hf hn _ => h.fr hf hn⟩
theorem RdV.rd {w : World} {v : Value} {xs : List Int} (h : RdV w v xs.length 1 (intC xs)) (hl : xs.length * 8 ≤ 140737488355328) : Rd w v xs := by
  obtain ⟨_, _, ⟨rfl, h0⟩ | ⟨a, c, rfl, hc, hat⟩⟩ := h
  · exact .inl ⟨rfl, List.eq_nil_of_length_eq_zero h0⟩
  · refine .inr ⟨a, c, rfl, hc, hl, fun j hj => ?_⟩
    rw [hat j (by omega)]
    simp [intC, hj, List.getD]
section
variable {w0 w : World} {l : List Piece} {t : Nat} {r : Rt}
theorem RtNew_h (h : Heap w0 w l) (n : Int) : Calls Try.prog 87 #[.int .i64 n] w fun e w' => e = .returned (.pointer (some ⟨w.heap.size, 0, none⟩)) ∧ Heap w0 w' (l ++ [tabP w.heap.size ⟨[], lim n⟩]) := by
  refine (New_tab n w).mono ?_
  rintro e w' ⟨rfl, F, T⟩
  refine ⟨rfl, h.push F (p := tabP w.heap.size ⟨[], lim n⟩) T (fun k hk => ?_)⟩
  rcases hk with hk | hk
  · exact hk.elim
  · exact hk
theorem RtLen_h (h : Heap w0 w l) (i : Nat) (hi : l[i]? = some (tabP t r)) : Calls Try.prog 49 #[.pointer (some ⟨t, 0, none⟩)] w fun e w' => e = .returned (.int .i64 r.es.length) ∧ w' = w := by
  obtain ⟨S, hS, _⟩ := h.get i hi
  exact RcLen_calls t S r.es r.most w hS
theorem State_h (h : Heap w0 w l) (i : Nat) (hi : l[i]? = some (tabP t r)) (n : Int) : Calls Try.prog 56 #[.pointer (some ⟨t, 0, none⟩), .int .i64 n] w fun e w' => e = .returned (.int .u8 (stateRt n r)) ∧ w' = w := by
  obtain ⟨S, hS, _⟩ := h.get i hi
  exact State_calls hS n
theorem All_h (h : Heap w0 w l) (i : Nat) (hi : l[i]? = some (tabP t r)) (n : Int) : Calls Try.prog 61 #[.pointer (some ⟨t, 0, none⟩), .int .i64 n] w fun e w' => e = .returned (.bool (allRt n r)) ∧ w' = w := by
  obtain ⟨S, hS, _⟩ := h.get i hi
  exact All_calls hS n
theorem Set_h (h : Heap w0 w l) (i : Nat) (hi : l[i]? = some (tabP t r)) (n s : Int) : Calls Try.prog 105 #[.pointer (some ⟨t, 0, none⟩), .int .i64 n, .int .u8 s] w fun e w' => e = .returned (.tuple #[]) ∧ Heap w0 w' (l.set i (tabP t (setRt n s r))) := by
  obtain ⟨S, hS, _, U⟩ := h.take i hi
  refine (Set_calls hS n s).mono ?_
  rintro e w' ⟨rfl, F, T⟩
  exact ⟨rfl, U (p' := tabP t (setRt n s r)) F T (fun _ x => .inl x)⟩
theorem SetAll_h (h : Heap w0 w l) (i : Nat) (hi : l[i]? = some (tabP t r)) (n : Int) : Calls Try.prog 62 #[.pointer (some ⟨t, 0, none⟩), .int .i64 n] w fun e w' => e = .returned (.tuple #[]) ∧ Heap w0 w' (l.set i (tabP t (setAllRt n r))) := by
  obtain ⟨S, hS, _, U⟩ := h.take i hi
  refine (SetAll_calls hS n).mono ?_
  rintro e w' ⟨rfl, F, T⟩
  exact ⟨rfl, U (p' := tabP t (setAllRt n r)) F T (fun _ x => .inl x)⟩
theorem Make_h (h : Heap w0 w l) (i : Nat) (hi : l[i]? = some (tabP t r)) (c : Rc) (vn vi : Value) (hn : RdV w vn c.nodes.length 1 (intC c.nodes)) (hv : RdV w vi c.infos.length 1 (intC c.infos)) (ln : c.nodes.length ≤ 1000000) (li : c.infos.length ≤ 1000000) :
    Calls Try.prog 59 #[.pointer (some ⟨t, 0, none⟩), .agg #[vn, vi, .int .i64 c.keep, .int .i64 c.way, .int .i64 c.old, .int .i64 c.new]] w fun e w' =>
      e = .returned (.tuple #[.int .i64 (makeRt c r).1.1, .bool (makeRt c r).1.2]) ∧ Heap w0 w' (l.set i (tabP t (makeRt c r).2)) := by
  obtain ⟨S, hS, _, U⟩ := h.take i hi
  have rn := hn.rd (by omega)
  have ri := hv.rd (by omega)
  unfold makeRt
  by_cases hm : c.nodes.length = c.infos.length ∧ 0 ≤ c.keep ∧ (r.es.length : Int) < r.most
  · rw [if_pos hm]
    refine (Make_yes t S r.es r.most vn vi c.nodes c.infos c.keep c.way c.old c.new w hS rn ri hm.1 hm.2.1 hm.2.2).mono ?_
    rintro e w' ⟨rfl, F, T⟩
    exact ⟨rfl, U (p' := tabP t ⟨r.es ++ [c.ent], r.most⟩) F T (fun _ x => x)⟩
  · rw [if_neg hm]
    refine (Make_no t S r.es r.most vn vi c.nodes c.infos c.keep c.way c.old c.new w hS rn ri (by omega)).mono ?_
    rintro e w' ⟨rfl, F⟩
    exact ⟨rfl, U (p' := tabP t r) (F.mono (fun _ _ x => x.elim)) (hS.fr F (fun _ _ x => x)) (fun _ x => .inl x)⟩
/-- What is told of a record: two rows of its own, and four numbers. -/
def rcV (c : Rc) (vn vi : Value) : Value := .agg #[vn, vi, .int .i64 c.keep, .int .i64 c.way, .int .i64 c.old, .int .i64 c.new]
def rcL (c : Rc) (vn vi : Value) : List Piece := [rowP 29 1 vn c.nodes.length (intC c.nodes), rowP 2 1 vi c.infos.length (intC c.infos)]
theorem RtLook_h (h : Heap w0 w l) (i : Nat) (hi : l[i]? = some (tabP t r)) (n : Int) : Calls Try.prog 94 #[.pointer (some ⟨t, 0, none⟩), .int .i64 n] w fun e w' =>
    ∃ a2 c2 a3 c3, e = .returned (rcV (lookRt n r) (.slice a2 (lookRt n r).nodes.length c2) (.slice a3 (lookRt n r).infos.length c3)) ∧ Heap w0 w' (l ++ rcL (lookRt n r) (.slice a2 (lookRt n r).nodes.length c2) (.slice a3 (lookRt n r).infos.length c3)) := by
  obtain ⟨S, hS, _⟩ := h.get i hi
  have hlk : lookRt n r = ((entOf r.es n).getD zeroEnt).rc := by
    unfold lookRt
    cases entOf r.es n with
    | none => rfl
    | some e => rfl
  refine (Look_calls hS n _ rfl).mono ?_
  rw [hlk]
  generalize (entOf r.es n).getD zeroEnt = x
  rintro e w' ⟨v, rfl, ⟨a2, c2, a3, c3, rfl, r2, r3⟩, F⟩
  refine ⟨a2, c2, a3, c3, rfl, ?_⟩
  have hne : ∀ g, (Value.slice a2 x.nodes.length c2).ownBlock = some g → (Value.slice a3 x.infos.length c3).ownBlock = some g → False := fun g hg hg' => by
    obtain ⟨_, _, b2⟩ := ownsRow_block r2 hg
    obtain ⟨_, _, b3⟩ := ownsRow_block r3 hg'
    exact b2.ne b3 (by decide) rfl
  obtain ⟨fr, σ, s1, s2, s3⟩ := h
  refine ⟨fr.trans F (fun _ _ x => x), fun j k => if j < l.length then σ j k else if j = l.length then (Value.slice a2 x.nodes.length c2).ownBlock = some k else if j = l.length + 1 then (Value.slice a3 x.infos.length c3).ownBlock = some k else False, fun j P hj => ?_, fun j k hk => ?_, fun a b k ha hb => ?_⟩
  · by_cases hl : j < l.length
    · simp only [hl, if_true]
      rw [List.getElem?_append_left hl] at hj
      exact P.keep (s1 j P hj) F (fun _ _ x => x) (fun k hk => (s2 j k hk).2)
    · have hjl : j < l.length + 2 := by
        have := (List.getElem?_eq_some_iff.1 hj).1
        simpa [rcL] using this
      rw [List.getElem?_append_right (by omega)] at hj
      by_cases h1 : j = l.length
      · subst h1
        simp [rcL] at hj
        subst hj
        simp only [Nat.lt_irrefl, if_false, if_true]
        exact ⟨.of_own r2, fun g hg => ⟨hg, (ownsRow_block r2 hg).2⟩⟩
      · obtain rfl : j = l.length + 1 := by omega
        simp [rcL] at hj
        subst hj
        simp only [show ¬ l.length + 1 < l.length from by omega, show ¬ l.length + 1 = l.length from by omega, if_false, if_true]
        exact ⟨.of_own r3, fun g hg => ⟨hg, (ownsRow_block r3 hg).2⟩⟩
  · have hz := fr.size
    simp only at hk
    split at hk
    · exact ⟨(s2 j k hk).1, Nat.lt_of_lt_of_le (s2 j k hk).2 F.size⟩
    · split at hk
      · obtain ⟨hb, c, hc⟩ := ownsRow_block r2 hk
        exact ⟨by omega, hc.lt⟩
      · split at hk
        · obtain ⟨hb, c, hc⟩ := ownsRow_block r3 hk
          exact ⟨by omega, hc.lt⟩
        · exact hk.elim
  · have key : ∀ j, ¬ j < l.length → (if j = l.length then (Value.slice a2 x.nodes.length c2).ownBlock = some k else if j = l.length + 1 then (Value.slice a3 x.infos.length c3).ownBlock = some k else False) → w.heap.size ≤ k := fun j _ hj => by
      split at hj
      · exact (ownsRow_block r2 hj).1
      · split at hj
        · exact (ownsRow_block r3 hj).1
        · exact hj.elim
    simp only at ha hb
    by_cases a1 : a < l.length <;> by_cases b1 : b < l.length
    · simp only [a1, b1, if_true] at ha hb
      exact s3 a b k ha hb
    · simp only [a1, b1, if_true, if_false] at ha hb
      have h1 := (s2 a k ha).2
      have h2 := key b b1 hb
      omega
    · simp only [a1, b1, if_true, if_false] at ha hb
      have h1 := (s2 b k hb).2
      have h2 := key a a1 ha
      omega
    · simp only [a1, b1, if_false] at ha hb
      split at ha <;> split at hb
      · omega
      · split at hb
        · exact (hne k ha hb).elim
        · exact hb.elim
      · split at ha
        · exact (hne k hb ha).elim
        · exact ha.elim
      · split at ha <;> split at hb
        · omega
        · exact hb.elim
        · exact ha.elim
        · exact ha.elim
end
end Go.Proofs.Ythkohomogknddaa
