/- The record table: what it is in memory; what each call makes of it. No condition but the bounds of size. -/
import Derived.Test.YtkbnoceekileiaaRows
import Derived.Test.YtkbnoceekileiaaK1
import Derived.Deep.RegionLaw
import Derived.Deep.RegionWith
import Derived.Deep.DeepCutAuto
namespace Go.Proofs.Ytkbnoceekileiaa
open Go Go.RowKit
set_option maxRecDepth 100000
theorem rc_info_ref : (Try.prog.info? 65).map (fun i => (i.zero, i.size, i.bytes)) = some (some (.int .i64 0), 1, 8) := by kernel_rfl
theorem rc_info_i64 : (Try.prog.info? 2).map (fun i => (i.zero, i.size, i.bytes)) = some (some (.int .i64 0), 1, 8) := by kernel_rfl
/-- What a Clone comes to. -/
def RcCloned (t : TypeId) (xs : List Int) (w : World) (e : Ending) (w' : World) : Prop :=
  ∃ a c, e = .returned (.slice a xs.length c) ∧ Row w' w.heap.size t (.slice a xs.length c) xs ∧ Fr nob w w'
theorem form_of {w : World} {B : Nat} {t : TypeId} {v : Value} {n : Nat} {us : List Value} (h : w.ownsRow B t 1 v n us) : ∃ a c, v = .slice a n c := by
  rcases row_cells h with ⟨rfl, rfl, _⟩ | ⟨g, cap, cur, rfl, _⟩
  · exact ⟨none, 0, rfl⟩
  · exact ⟨_, _, rfl⟩
theorem rcClone_ref (v : Value) (xs : List Int) (w : World) (h : Rd w v xs) : Calls Try.prog 76 #[v] w (RcCloned 65 xs w) := by
  have he := fun (w : World) (a : Option Addr) (n c : Nat) => Lib.run_eql_slice_nil (P := Try.prog) w 108 65 a n c 0 0 Try.underlying108
  obtain ⟨i0, hi, hz0, hz1, hz2⟩ := info_parts rc_info_ref
  rcases h with ⟨rfl, rfl⟩ | ⟨a, c, rfl, h1, h2, h3⟩
  · go_enter Try.func76, Try.ntmps76
    go_wp2
    go_ret
    exact ⟨none, 0, rfl, ⟨rfl, .inl ⟨rfl, rfl⟩⟩, Fr.refl _ _⟩
  · have hcells : ∀ j u, (xs.map (Value.int .i64))[j]? = some u → (w.alloc (.cells #[] 65)).cell? (a.add j) = some u := by
      intro j u hu
      have hj : j < xs.length := by
        have := (List.getElem?_eq_some_iff.1 hu).1
        simpa using this
      have hc := h3 j hj
      rw [((Fr.refl nob w).alloc _).cell' hc (fun x => x)]
      rw [List.getElem?_map, List.getElem?_eq_getElem hj] at hu
      simp only [Option.map_some, Option.some.injEq] at hu
      rw [← hu]
      simp [hj]
    have hone : ∀ u ∈ xs.map (Value.int .i64), u.oneCell' = true := by
      intro u hu
      obtain ⟨x, _, rfl⟩ := List.mem_map.1 hu
      rfl
    go_enter Try.func76, Try.ntmps76
    go_wp2_with (at_builtin; refine wpList_append_own _ rfl (.tmp 5) (.tmp 6) 108 rfl w.heap.size 65 i0 (.int .i64 0) 1 8 Try.underlying108 hi hz0 hz1 hz2 rfl (by decide) _ 0 [] rfl ⟨rfl, .inr ⟨w.heap.size, 0, #[], rfl, Nat.le_refl _, heap_alloc_new w _, Nat.le_refl _, Nat.zero_le _, rfl, rfl⟩⟩ a xs.length c (xs.map (Value.int .i64)) rfl (by simp) hcells hone (by unfold maxLen; omega) (by omega) (by simp) ?_)
    intro v' w' hown hgrow hnil
    obtain ⟨a', c', rfl⟩ := form_of hown
    have hf : Fr nob w w' := ((Fr.refl nob w).alloc _).grown hgrow (fun k hk => .inr (by simp [Value.ownBlock] at hk; omega))
    clear hnil hcells hone
    go_wp2
    go_ret
    exact ⟨a', c', rfl, hown, hf⟩
theorem rcClone_i64 (v : Value) (xs : List Int) (w : World) (h : Rd w v xs) : Calls Try.prog 75 #[v] w (RcCloned 2 xs w) := by
  have he := fun (w : World) (a : Option Addr) (n c : Nat) => Lib.run_eql_slice_nil (P := Try.prog) w 22 2 a n c 0 0 Try.underlying22
  obtain ⟨i0, hi, hz0, hz1, hz2⟩ := info_parts rc_info_i64
  rcases h with ⟨rfl, rfl⟩ | ⟨a, c, rfl, h1, h2, h3⟩
  · go_enter Try.func75, Try.ntmps75
    go_wp2
    go_ret
    exact ⟨none, 0, rfl, ⟨rfl, .inl ⟨rfl, rfl⟩⟩, Fr.refl _ _⟩
  · have hcells : ∀ j u, (xs.map (Value.int .i64))[j]? = some u → (w.alloc (.cells #[] 2)).cell? (a.add j) = some u := by
      intro j u hu
      have hj : j < xs.length := by
        have := (List.getElem?_eq_some_iff.1 hu).1
        simpa using this
      have hc := h3 j hj
      rw [((Fr.refl nob w).alloc _).cell' hc (fun x => x)]
      rw [List.getElem?_map, List.getElem?_eq_getElem hj] at hu
      simp only [Option.map_some, Option.some.injEq] at hu
      rw [← hu]
      simp [hj]
    have hone : ∀ u ∈ xs.map (Value.int .i64), u.oneCell' = true := by
      intro u hu
      obtain ⟨x, _, rfl⟩ := List.mem_map.1 hu
      rfl
    go_enter Try.func75, Try.ntmps75
    go_wp2_with (at_builtin; refine wpList_append_own _ rfl (.tmp 5) (.tmp 6) 22 rfl w.heap.size 2 i0 (.int .i64 0) 1 8 Try.underlying22 hi hz0 hz1 hz2 rfl (by decide) _ 0 [] rfl ⟨rfl, .inr ⟨w.heap.size, 0, #[], rfl, Nat.le_refl _, heap_alloc_new w _, Nat.le_refl _, Nat.zero_le _, rfl, rfl⟩⟩ a xs.length c (xs.map (Value.int .i64)) rfl (by simp) hcells hone (by unfold maxLen; omega) (by omega) (by simp) ?_)
    intro v' w' hown hgrow hnil
    obtain ⟨a', c', rfl⟩ := form_of hown
    have hf : Fr nob w w' := ((Fr.refl nob w).alloc _).grown hgrow (fun k hk => .inr (by simp [Value.ownBlock] at hk; omega))
    clear hnil hcells hone
    go_wp2
    go_ret
    exact ⟨a', c', rfl, hown, hf⟩
/-- how many there may be -/
def lim (n : Int) : Int := min (max n 0) 65536
theorem RcNew_calls (n : Int) (w : World) : Calls Try.prog 51 #[.int .i64 n] w fun e w' => e = .returned (.pointer (some ⟨w.heap.size, 0, none⟩)) ∧ w' = w.alloc (.cells #[.slice none 0 0, .int .i64 (lim n)] 139) := by
  go_enter Try.func51, Try.ntmps51
  go_wp2
  all_goals
    go_ret
    refine ⟨rfl, ?_⟩
    first | rw [show lim n = 0 from by unfold lim; omega] | rw [show lim n = 65536 from by unfold lim; omega] | rw [show lim n = n from by unfold lim; omega]
/-- A record, its state, whether all nodes are its own. -/
structure Ent where
  nodes : List Int
  infos : List Int
  keep : Int
  way : Int
  old : Int
  new : Int
  st : Int
  all : Bool
/-- An entry's cells. -/
def entC (vn vi : Value) (e : Ent) : Array Value := #[vn, vi, .int .i64 e.keep, .int .i64 e.way, .int .i64 e.old, .int .i64 e.new, .int .u8 e.st, .bool e.all]
/-- An entry at block b; its rows lie among S. -/
def EntAt (w : World) (S : Nat → Prop) (b : Nat) (e : Ent) : Prop :=
  ∃ vn vi, Blk w b 170 (entC vn vi e) ∧ Row w 0 65 vn e.nodes ∧ Row w 0 2 vi e.infos ∧ (∀ g, vn.ownBlock = some g → S g) ∧ (∀ g, vi.ownBlock = some g → S g) ∧
    e.nodes.length * 8 ≤ 140737488355328 ∧ e.infos.length * 8 ≤ 140737488355328
def ptr (b : Nat) : Value := .pointer (some ⟨b, 0, none⟩)
/-- A table at block t whose blocks lie among S: its entries, in order; how many there may be. -/
structure Tab (w : World) (t : Nat) (S : Nat → Prop) (es : List Ent) (most : Int) : Prop where
  body : ∃ (vl : Value) (bs : List Nat), Blk w t 139 #[vl, .int .i64 most] ∧ w.ownsRow 0 163 1 vl es.length (bs.map ptr) ∧ (∀ g, vl.ownBlock = some g → S g) ∧ bs.Nodup ∧ (∀ b ∈ bs, S b) ∧
    (∀ (i : Nat) (e : Ent), es[i]? = some e → ∃ b : Nat, bs[i]? = some b ∧ EntAt w S b e)
  here : S t
  lt : ∀ k, S k → k < w.heap.size
  few : (es.length : Int) ≤ max most 0
  top : most ≤ 65536
theorem EntAt.fr {S S' F : Nat → Prop} {w w' : World} {b : Nat} {e : Ent} (h : EntAt w S b e) (hf : Fr F w w') (hb : ¬ F b)
    (hn : ∀ k t c, S k → Blk w k t c → t = 65 ∨ t = 2 → ¬ F k) (hs : ∀ k, S k → S' k) : EntAt w' S' b e := by
  obtain ⟨vn, vi, h1, h2, h3, h4, h5, h6⟩ := h
  refine ⟨vn, vi, h1.fr hf hb, ownsRow_fr h2 hf (fun g hg => ?_), ownsRow_fr h3 hf (fun g hg => ?_), fun g hg => hs g (h4 g hg), fun g hg => hs g (h5 g hg), h6⟩
  · obtain ⟨_, c, hc⟩ := ownsRow_block h2 hg
    exact hn g _ c (h4 g hg) hc (.inl rfl)
  · obtain ⟨_, c, hc⟩ := ownsRow_block h3 hg
    exact hn g _ c (h5 g hg) hc (.inr rfl)
/-- What does not touch its blocks leaves a table as it is. -/
theorem Tab.fr {S F : Nat → Prop} {w w' : World} {t : Nat} {es : List Ent} {most : Int} (h : Tab w t S es most) (hf : Fr F w w') (hn : ∀ k, S k → ¬ F k) : Tab w' t S es most := by
  obtain ⟨⟨vl, bs, h1, h2, h3, h4, h5, h6⟩, hh, hl, hw, ht⟩ := h
  refine ⟨⟨vl, bs, h1.fr hf (hn _ hh), ownsRow_fr h2 hf (fun g hg => hn g (h3 g hg)), h3, h4, h5, fun i e he => ?_⟩, hh, fun k hk => Nat.lt_of_lt_of_le (hl k hk) hf.size, hw, ht⟩
  obtain ⟨b, hb, ha⟩ := h6 i e he
  exact ⟨b, hb, ha.fr hf (hn _ (h5 b (List.mem_of_getElem? hb))) (fun k _ _ hk _ _ => hn k hk) (fun _ x => x)⟩
theorem Tab.more {S S' : Nat → Prop} {w : World} {t : Nat} {es : List Ent} {most : Int} (h : Tab w t S es most) (hs : ∀ k, S k → S' k) (hl : ∀ k, S' k → k < w.heap.size) : Tab w t S' es most := by
  obtain ⟨⟨vl, bs, h1, h2, h3, h4, h5, h6⟩, hh, _, hw, ht⟩ := h
  refine ⟨⟨vl, bs, h1, h2, fun g hg => hs g (h3 g hg), h4, fun b hb => hs b (h5 b hb), fun i e he => ?_⟩, hs _ hh, hl, hw, ht⟩
  obtain ⟨b, hb, ha⟩ := h6 i e he
  exact ⟨b, hb, ha.fr (Fr.refl nob w) (fun x => x) (fun _ _ _ _ _ _ x => x) hs⟩
theorem ptr_ne {a b : Nat} : ptr a = ptr b ↔ a = b := by simp [ptr]
set_option linter.unusedVariables false in
/-- A table with one more entry. -/
theorem Tab_push {w wc w1 : World} {t : Nat} {S : Nat → Prop} {es : List Ent} {most : Int} {e : Ent} {al : Option Addr} {cl : Nat} {bs : List Nat} {M gg cap : Nat} {vn vi : Value}
    (h1 : Blk w t 139 #[.slice al es.length cl, .int .i64 most]) (h2 : w.ownsRow 0 163 1 (.slice al es.length cl) es.length (bs.map ptr)) (h3 : ∀ g, (Value.slice al es.length cl).ownBlock = some g → S g)
    (h4 : bs.Nodup) (h5 : ∀ b ∈ bs, S b) (h6 : ∀ (i : Nat) (e : Ent), es[i]? = some e → ∃ b : Nat, bs[i]? = some b ∧ EntAt w S b e) (hh : S t) (hl : ∀ k, S k → k < w.heap.size) (hr : (es.length : Int) < most) (ht : most ≤ 65536)
    (F2 : Fr nob w wc) (rn : Row wc w.heap.size 65 vn e.nodes) (ri : Row wc w.heap.size 2 vi e.infos) (ln : e.nodes.length * 8 ≤ 140737488355328) (li : e.infos.length * 8 ≤ 140737488355328) (hM : wc.heap.size = M)
    (hgrow : ((wc.drew.alloc (.cells (entC vn vi e) 170)).alloc (.cells #[ptr M] 163)).grownBy w1 (Value.slice al es.length cl).ownBlock)
    (hown1 : w1.ownsRow 0 163 1 (.slice (some ⟨gg, 0, none⟩) (es.length + 1) cap) (es.length + 1) (bs.map ptr ++ [ptr M])) (hat : (Value.slice al es.length cl).ownBlock = some gg ∨ gg = M + 2) (hlt : gg < w1.heap.size) :
    Fr S w (w1.setCell ⟨t, 0, none⟩ (.slice (some ⟨gg, 0, none⟩) (es.length + 1) cap)) ∧
    Tab (w1.setCell ⟨t, 0, none⟩ (.slice (some ⟨gg, 0, none⟩) (es.length + 1) cap)) t (wide S w (w1.setCell ⟨t, 0, none⟩ (.slice (some ⟨gg, 0, none⟩) (es.length + 1) cap))) (es ++ [e]) most := by
  have F3 : Fr nob w ((wc.drew.alloc (.cells (entC vn vi e) 170)).alloc (.cells #[ptr M] 163)) := (F2.drew.alloc _).alloc _
  have E3 : Blk ((wc.drew.alloc (.cells (entC vn vi e) 170)).alloc (.cells #[ptr M] 163)) M 170 (entC vn vi e) := (Blk.new' (by simpa using hM) _ _).alloc _
  have s3 : ((wc.drew.alloc (.cells (entC vn vi e) 170)).alloc (.cells #[ptr M] 163)).heap.size = M + 2 := by simp [hM]
  have rn3 : Row ((wc.drew.alloc (.cells (entC vn vi e) 170)).alloc (.cells #[ptr M] 163)) w.heap.size 65 vn e.nodes := ownsRow_fr rn ((((Fr.refl nob _).drew).alloc _).alloc _) (fun _ _ x => x)
  have ri3 : Row ((wc.drew.alloc (.cells (entC vn vi e) 170)).alloc (.cells #[ptr M] 163)) w.heap.size 2 vi e.infos := ownsRow_fr ri ((((Fr.refl nob _).drew).alloc _).alloc _) (fun _ _ x => x)
  have hMw : w.heap.size ≤ M := by rw [← hM]; exact F2.size
  generalize ((wc.drew.alloc (.cells (entC vn vi e) 170)).alloc (.cells #[ptr M] 163)) = w3 at *
  -- what may have changed between w and w3, w1, the end
  have Fg : Fr (fun k => (Value.slice al es.length cl).ownBlock = some k) w3 w1 := (Fr.refl _ _).grown hgrow (fun k hk => .inl hk)
  generalize hw' : w1.setCell ⟨t, 0, none⟩ (.slice (some ⟨gg, 0, none⟩) (es.length + 1) cap) = w'
  have Fs : Fr (fun k => k = t) w1 w' := by rw [← hw']; exact (Fr.refl (fun k => k = t) w1).setCell (p := ⟨t, 0, none⟩) (.inl rfl) _
  have F' : Fr (fun k => k = t ∨ (Value.slice al es.length cl).ownBlock = some k) w w' :=
    ((F3.mono (fun _ _ x => x.elim)).trans Fg (fun k _ hk => .inr hk)).trans Fs (fun k _ hk => .inl hk)
  have s1 : M + 2 ≤ w1.heap.size := by rw [← s3]; exact Fg.size
  have s' : w'.heap.size = w1.heap.size := by rw [← hw']; simp [World.setCell]
  -- t is none of the others
  have tg : ∀ g, (Value.slice al es.length cl).ownBlock = some g → g ≠ t := by
    intro g hg
    obtain ⟨_, c, hc⟩ := ownsRow_block h2 hg
    exact hc.ne h1 (by decide)
  have t1 : Blk w1 t 139 #[.slice al es.length cl, .int .i64 most] := (h1.fr F3 (fun x => x)).fr Fg (fun hk => tg t hk rfl)
  have tgg : gg ≠ t := by
    obtain ⟨_, c, hc⟩ := ownsRow_block hown1 (g := gg) rfl
    exact hc.ne t1 (by decide)
  have t' : Blk w' t 139 #[.slice (some ⟨gg, 0, none⟩) (es.length + 1) cap, .int .i64 most] := by rw [← hw']; exact t1.set 0 _
  have tlt := h1.lt
  refine ⟨F'.mono (fun k _ hk => ?_), ⟨⟨.slice (some ⟨gg, 0, none⟩) (es.length + 1) cap, bs ++ [M], t', ?_, ?_, ?_, ?_, ?_⟩, .inl hh, ?_, ?_, ht⟩⟩
  · rcases hk with rfl | hk
    · exact hh
    · exact h3 k hk
  · rw [List.length_append, List.map_append]
    exact ownsRow_fr hown1 Fs (fun g hg hx => by simp [Value.ownBlock] at hg; omega)
  · intro g hg
    simp [Value.ownBlock] at hg
    subst hg
    rcases hat with hat | hat
    · exact .inl (h3 _ hat)
    · exact .inr ⟨by omega, by omega⟩
  · rw [List.nodup_append]
    refine ⟨h4, by simp, fun a ha b hb => ?_⟩
    have := hl a (h5 a ha)
    simp at hb
    omega
  · intro b hb
    rcases List.mem_append.1 hb with hb | hb
    · exact .inl (h5 b hb)
    · simp at hb
      exact .inr ⟨by omega, by omega⟩
  · intro i x hx
    by_cases hi : i < es.length
    · rw [List.getElem?_append_left hi] at hx
      obtain ⟨b, hb, ha⟩ := h6 i x hx
      have hbl : i < bs.length := (List.getElem?_eq_some_iff.1 hb).1
      refine ⟨b, by rw [List.getElem?_append_left hbl]; exact hb, ha.fr F' ?_ ?_ (fun k hk => .inl hk)⟩
      · obtain ⟨vn', vi', hB, _⟩ := ha
        rintro (rfl | hg)
        · exact hB.ne h1 (by decide) rfl
        · obtain ⟨_, c, hc⟩ := ownsRow_block h2 hg
          exact hB.ne hc (by decide) rfl
      · rintro k T c _ hB hT (rfl | hg)
        · exact hB.ne h1 (by rcases hT with rfl | rfl <;> decide) rfl
        · obtain ⟨_, c', hc⟩ := ownsRow_block h2 hg
          exact hB.ne hc (by rcases hT with rfl | rfl <;> decide) rfl
    · have hlb : bs.length = es.length := by have := h2.1; simpa using this
      have hi' : i = es.length := by
        have := (List.getElem?_eq_some_iff.1 hx).1
        simp at this; omega
      subst hi'
      simp at hx
      subst hx
      have bound : ∀ k, w.heap.size ≤ k → ¬ (k = t ∨ (Value.slice al es.length cl).ownBlock = some k) := by
        rintro k hk (rfl | hg)
        · omega
        · have := hl k (h3 k hg); omega
      have FM : Fr (fun k => k = t ∨ (Value.slice al es.length cl).ownBlock = some k) w3 w' := (Fg.mono (fun _ _ x => .inr x)).trans Fs (fun k _ hk => .inl hk)
      refine ⟨M, by rw [← hlb]; simp, vn, vi, E3.fr FM (bound M hMw), ownsRow_base (ownsRow_fr rn3 FM (fun g hg => bound g (ownsRow_block rn3 hg).1)) (Nat.zero_le _), ownsRow_base (ownsRow_fr ri3 FM (fun g hg => bound g (ownsRow_block ri3 hg).1)) (Nat.zero_le _), ?_, ?_, ln, li⟩
      · intro g hg
        obtain ⟨hb, c, hc⟩ := ownsRow_block rn3 hg
        exact .inr ⟨hb, Nat.lt_of_lt_of_le hc.lt FM.size⟩
      · intro g hg
        obtain ⟨hb, c, hc⟩ := ownsRow_block ri3 hg
        exact .inr ⟨hb, Nat.lt_of_lt_of_le hc.lt FM.size⟩
  · rintro k (hk | hk)
    · exact Nat.lt_of_lt_of_le (hl k hk) F'.size
    · exact hk.2
  · rw [List.length_append]; simp; omega
end Go.Proofs.Ytkbnoceekileiaa
namespace Go.Proofs.Ytkbnoceekileiaa
open Go Go.RowKit
set_option maxRecDepth 100000
set_option linter.unusedVariables false
set_option linter.unusedSimpArgs false
theorem info_ent : (Try.prog.info? 163).map (fun i => (i.zero, i.size, i.bytes)) = some (some (.pointer none), 1, 8) := by kernel_rfl
/-- Behind 'r.Nodes, r.Infos = slices.Clone(r.Nodes), slices.Clone(r.Infos)'. -/
theorem cloned_fin {W1 w2 w3 : World} {H : Nat} {x0 x1 x2 x3 x4 x5 : Value} {a2 a3 : Option Addr} {c2 c3 : Nat} {nodes infos : List Int} (B1 : Blk W1 H 167 #[x0, x1, x2, x3, x4, x5]) (f1 : Fr nob W1.drew w2) (f2 : Fr nob w2 w3)
    (row2 : Row w2 W1.heap.size 65 (.slice a2 nodes.length c2) nodes) (row3 : Row w3 w2.heap.size 2 (.slice a3 infos.length c3) infos) :
    Fr (fun k => k = H) W1 ((w3.setCell ⟨H, 0, none⟩ (.slice a2 nodes.length c2)).setCell ⟨H, 1, none⟩ (.slice a3 infos.length c3)) ∧
    Blk ((w3.setCell ⟨H, 0, none⟩ (.slice a2 nodes.length c2)).setCell ⟨H, 1, none⟩ (.slice a3 infos.length c3)) H 167 #[.slice a2 nodes.length c2, .slice a3 infos.length c3, x2, x3, x4, x5] ∧
    Row ((w3.setCell ⟨H, 0, none⟩ (.slice a2 nodes.length c2)).setCell ⟨H, 1, none⟩ (.slice a3 infos.length c3)) W1.heap.size 65 (.slice a2 nodes.length c2) nodes ∧
    Row ((w3.setCell ⟨H, 0, none⟩ (.slice a2 nodes.length c2)).setCell ⟨H, 1, none⟩ (.slice a3 infos.length c3)) W1.heap.size 2 (.slice a3 infos.length c3) infos := by
  have lH := B1.lt
  have e2 : Fr nob W1 w3 := f1.undrew.trans f2 (fun _ _ x => x)
  have B3 : Blk w3 H 167 _ := B1.fr e2 (fun x => x)
  have g0 : Fr (fun k => k = H) w3 ((w3.setCell ⟨H, 0, none⟩ (.slice a2 nodes.length c2)).setCell ⟨H, 1, none⟩ (.slice a3 infos.length c3)) := ((Fr.refl (fun k => k = H) w3).setCell (p := ⟨H, 0, none⟩) (.inl rfl) _).setCell (p := ⟨H, 1, none⟩) (.inl rfl) _
  have s2 := f1.undrew.size
  refine ⟨(e2.mono (fun _ _ x => x.elim)).trans g0 (fun k _ x => x), (B3.set 0 _).set 1 _, ?_, ?_⟩
  · exact ownsRow_fr (ownsRow_fr row2 f2 (fun _ _ x => x)) g0 (fun g hg x => by have := (ownsRow_block row2 hg).1; omega)
  · exact ownsRow_base (ownsRow_fr row3 g0 (fun g hg x => by have := (ownsRow_block row3 hg).1; omega)) s2
end Go.Proofs.Ytkbnoceekileiaa
namespace Go.Proofs.Ytkbnoceekileiaa
open Go Go.RowKit
set_option maxRecDepth 100000
set_option linter.unusedVariables false
set_option linter.unusedSimpArgs false
end Go.Proofs.Ytkbnoceekileiaa
namespace Go.Proofs.Ytkbnoceekileiaa
open Go Go.RowKit
set_option maxRecDepth 100000
set_option linter.unusedVariables false
set_option linter.unusedSimpArgs false
theorem ent_st (vn vi : Value) (e : Ent) (s : Int) : (entC vn vi e).setIfInBounds 6 (.int .u8 s) = entC vn vi { e with st := s } := rfl
theorem ent_all (vn vi : Value) (e : Ent) (s : Bool) : (entC vn vi e).setIfInBounds 7 (.bool s) = entC vn vi { e with all := s } := rfl
/-- The entry of number n. -/
def entOf (es : List Ent) (n : Int) : Option Ent := if 1 ≤ n then es[n.toNat - 1]? else none
theorem entOf_none {es : List Ent} {n : Int} (h : entOf es n = none) : n < 1 ∨ (es.length : Int) < n := by
  unfold entOf at h
  split at h
  · have := List.getElem?_eq_none_iff.1 h; omega
  · omega
theorem entOf_some {es : List Ent} {n : Int} {e : Ent} (h : entOf es n = some e) : ∃ i : Nat, n = (i : Int) + 1 ∧ es[i]? = some e := by
  unfold entOf at h
  split at h
  · exact ⟨n.toNat - 1, by omega, h⟩
  · cases h
/-- The entries when number n's entry is another one. -/
def putOf (es : List Ent) (n : Int) (f : Ent → Ent) : List Ent := match entOf es n with
  | none => es
  | some e => es.set (n.toNat - 1) (f e)
end Go.Proofs.Ytkbnoceekileiaa
namespace Go.Proofs.Ytkbnoceekileiaa
open Go Go.RowKit
set_option maxRecDepth 100000
set_option linter.unusedVariables false
set_option linter.unusedSimpArgs false
/-- A record as it is told: what its two rows and its four numbers are. -/
def Told (w : World) (B : Nat) (v : Value) (nodes infos : List Int) (keep way old new : Int) : Prop :=
  ∃ a2 c2 a3 c3, v = .agg #[.slice a2 nodes.length c2, .slice a3 infos.length c3, .int .i64 keep, .int .i64 way, .int .i64 old, .int .i64 new] ∧
    Row w B 65 (.slice a2 nodes.length c2) nodes ∧ Row w B 2 (.slice a3 infos.length c3) infos
def zeroEnt : Ent := ⟨[], [], 0, 0, 0, 0, 0, false⟩
end Go.Proofs.Ytkbnoceekileiaa
namespace Go.Proofs.Ytkbnoceekileiaa
open Go Go.RowKit
set_option maxRecDepth 100000
set_option linter.unusedVariables false
set_option linter.unusedSimpArgs false
theorem Tab_new (n : Int) (w : World) : Tab (w.alloc (.cells #[.slice none 0 0, .int .i64 (lim n)] 139)) w.heap.size (wide nob w (w.alloc (.cells #[.slice none 0 0, .int .i64 (lim n)] 139))) [] (lim n) := by
  refine ⟨⟨.slice none 0 0, [], Blk.new _ _ _, ⟨rfl, .inl ⟨rfl, rfl⟩⟩, fun g hg => by simp [Value.ownBlock] at hg, List.nodup_nil, fun b hb => by simp at hb, fun i e h => by simp at h⟩, .inr ⟨Nat.le_refl _, by simp⟩, ?_, ?_, ?_⟩
  · rintro k (hk | hk)
    · exact hk.elim
    · exact hk.2
  · unfold lim; simp; omega
  · unfold lim; omega
theorem New_tab (n : Int) (w : World) : Calls Try.prog 51 #[.int .i64 n] w fun e w' => e = .returned (.pointer (some ⟨w.heap.size, 0, none⟩)) ∧ Fr nob w w' ∧ Tab w' w.heap.size (wide nob w w') [] (lim n) := by
  refine (RcNew_calls n w).mono ?_
  rintro e w' ⟨rfl, rfl⟩
  exact ⟨rfl, (Fr.refl _ _).alloc _, Tab_new n w⟩
theorem wide_wide {S : Nat → Prop} {a b c : World} (h1 : a.heap.size ≤ b.heap.size) (h2 : b.heap.size ≤ c.heap.size) (k : Nat) : wide (wide S a b) b c k ↔ wide S a c k := by
  unfold wide
  constructor
  · rintro ((h | h) | h)
    · exact .inl h
    · exact .inr ⟨h.1, by omega⟩
    · exact .inr ⟨by omega, h.2⟩
  · rintro (h | h)
    · exact .inl (.inl h)
    · by_cases hb : k < b.heap.size
      · exact .inl (.inr ⟨h.1, hb⟩)
      · exact .inr ⟨by omega, h.2⟩
/-- A table: its entries, how many there may be. -/
structure Rt where
  es : List Ent
  most : Int
/-- What doesn't change of a record. -/
structure Rc where
  nodes : List Int
  infos : List Int
  keep : Int
  way : Int
  old : Int
  new : Int
def noRc : Rc := ⟨[], [], 0, 0, 0, 0⟩
def Ent.rc (e : Ent) : Rc := ⟨e.nodes, e.infos, e.keep, e.way, e.old, e.new⟩
def Rc.ent (r : Rc) : Ent := ⟨r.nodes, r.infos, r.keep, r.way, r.old, r.new, 1, false⟩
def stateRt (n : Int) (r : Rt) : Int := ((entOf r.es n).map Ent.st).getD 0
def allRt (n : Int) (r : Rt) : Bool := ((entOf r.es n).map Ent.all).getD false
def setRt (n s : Int) (r : Rt) : Rt := { r with es := putOf r.es n fun e => { e with st := s } }
def setAllRt (n : Int) (r : Rt) : Rt := { r with es := putOf r.es n fun e => { e with all := true } }
def lookRt (n : Int) (r : Rt) : Rc := ((entOf r.es n).map Ent.rc).getD noRc
def makeRt (c : Rc) (r : Rt) : (Int × Bool) × Rt :=
  if c.nodes.length = c.infos.length ∧ 0 ≤ c.keep ∧ (r.es.length : Int) < r.most then (((r.es.length : Int) + 1, true), { r with es := r.es ++ [c.ent] }) else ((0, false), r)
def tabP (t : Nat) (r : Rt) : Piece := ⟨fun w S => Tab w t S r.es r.most, fun h hf hn _ => h.fr hf hn⟩
theorem RdV.rd {w : World} {v : Value} {xs : List Int} (h : RdV w v xs.length 1 (intC xs)) (hl : xs.length * 8 ≤ 140737488355328) : Rd w v xs := by
  obtain ⟨_, _, ⟨rfl, h0⟩ | ⟨a, c, rfl, hc, hat⟩⟩ := h
  · exact .inl ⟨rfl, List.eq_nil_of_length_eq_zero h0⟩
  · refine .inr ⟨a, c, rfl, hc, hl, fun j hj => ?_⟩
    rw [hat j (by omega)]
    simp [intC, hj, List.getD]
section
variable {w0 w : World} {l : List Piece} {t : Nat} {r : Rt}
theorem RtNew_h (h : Heap w0 w l) (n : Int) : Calls Try.prog 51 #[.int .i64 n] w fun e w' => e = .returned (.pointer (some ⟨w.heap.size, 0, none⟩)) ∧ Heap w0 w' (l ++ [tabP w.heap.size ⟨[], lim n⟩]) := by
  refine (New_tab n w).mono ?_
  rintro e w' ⟨rfl, F, T⟩
  refine ⟨rfl, h.push F (p := tabP w.heap.size ⟨[], lim n⟩) T (fun k hk => ?_)⟩
  rcases hk with hk | hk
  · exact hk.elim
  · exact hk
/-- What is told of a record: two rows of its own, and four numbers. -/
def rcV (c : Rc) (vn vi : Value) : Value := .agg #[vn, vi, .int .i64 c.keep, .int .i64 c.way, .int .i64 c.old, .int .i64 c.new]
def rcL (c : Rc) (vn vi : Value) : List Piece := [rowP 65 1 vn c.nodes.length (intC c.nodes), rowP 2 1 vi c.infos.length (intC c.infos)]
end
end Go.Proofs.Ytkbnoceekileiaa
