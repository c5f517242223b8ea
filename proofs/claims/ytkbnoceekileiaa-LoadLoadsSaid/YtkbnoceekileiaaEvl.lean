/- In the even tree nothing is wrong: sizes, levels, places. No program. -/
import Derived.Test.YtkbnoceekileiaaWrg
import Derived.Test.YtkbnoceekileiaaLpl
namespace Go.Proofs.Ytkbnoceekileiaa
open Go Go.RowKit
set_option linter.unusedVariables false
set_option linter.unusedSimpArgs false
set_option maxRecDepth 100000
-- levels
theorem levsP_all (h : Nat) : ∀ (l : List Sh) (first : Bool) (n : Nat), (∀ s ∈ l, levP s = (h, true)) → (first = true ∨ n = h) → levsP l first n = some (if l = [] then n else h)
  | [], first, n, _, _ => by rw [levsP]; simp
  | s :: l, first, n, hs, hn => by
    rw [levsP_cons, hs s List.mem_cons_self, if_neg, levsP_all h l false h (fun x hx => hs x (List.mem_cons_of_mem _ hx)) (.inr rfl)]
    · simp
    · rintro (h1 | ⟨h1, h2⟩)
      · simp at h1
      · rcases hn with h3 | h3
        · rw [h3] at h1; simp at h1
        · exact h2 h3.symm
theorem lev_leaf : ∀ (ps : List Nat) (l : List (Int × Int)), ∀ s ∈ leafShs ps l, levP s = (0, true)
  | [], l, s, h => by simp [leafShs] at h
  | k :: t, l, s, h => by
    rw [leafShs] at h
    rcases List.mem_cons.1 h with rfl | h
    · rw [levP_mk, levsP]; simp
    · exact lev_leaf t _ s h
theorem lev_up (h : Nat) : ∀ (ps : List Nat) (row : List Sh) (fs : List Int), (∀ k ∈ ps, 1 ≤ k) → ps.sum ≤ row.length → (∀ s ∈ row, levP s = (h, true)) → ∀ s ∈ upShs ps row fs, levP s = (h + 1, true)
  | [], row, fs, _, _, _, s, hs => by simp [upShs] at hs
  | k :: t, row, fs, hk, hl, hr, s, hs => by
    rw [upShs] at hs
    have hk1 := hk k List.mem_cons_self
    simp only [List.sum_cons] at hl
    rcases List.mem_cons.1 hs with rfl | hs
    · rw [levP_mk, levsP_all h (row.take k) true 0 (fun x hx => hr x (List.mem_of_mem_take hx)) (.inl rfl)]
      have hne : ¬ row.take k = [] := fun e => by
        have h9 : (row.take k).length = 0 := by rw [e]; rfl
        rw [List.length_take] at h9
        omega
      rw [if_neg hne]
      simp
    · exact lev_up h t (row.drop k) (fs.drop k) (fun x hx => hk x (List.mem_cons_of_mem _ hx)) (by rw [List.length_drop]; omega) (fun x hx => hr x (List.mem_of_mem_drop hx)) s hs
theorem parts_pos {n b : Nat} (hn : 1 ≤ n) (hb : 1 ≤ b) : ∀ k ∈ partsN n b, 1 ≤ k := by
  intro k hk
  unfold partsN at hk
  obtain ⟨i, _, rfl⟩ := List.mem_map.1 hk
  exact partAt_pos hn hb
theorem lev_evenUp {b : Nat} (hb : 2 ≤ b) : ∀ (f h : Nat) (row : List Sh) (fs : List Int), (∀ s ∈ row, levP s = (h, true)) → ∃ h', ∀ s ∈ evenUp b f row fs, levP s = (h', true)
  | 0, h, row, fs, hr => ⟨h, by rw [evenUp]; exact hr⟩
  | f + 1, h, row, fs, hr => by
    rw [evenUp]
    split
    · exact ⟨h, hr⟩
    · exact lev_evenUp hb f (h + 1) _ _ (lev_up h _ row fs (parts_pos (by omega) (by omega)) (by rw [partsN_sum]; exact Nat.le_refl _) hr)
theorem lev_even {b : Nat} (hb : 2 ≤ b) (l : List (Int × Int)) : (levP (evenSh b l)).2 = true := by
  unfold evenSh
  split
  · unfold nilSh; rw [levP_mk, levsP]
  · obtain ⟨h', hh⟩ := lev_evenUp hb l.length 0 (leafShs (partsN l.length b) l) (leafKeys (partsN l.length b) l) (lev_leaf _ _)
    cases hq : evenUp b l.length (leafShs (partsN l.length b) l) (leafKeys (partsN l.length b) l) with
    | nil => show (levP nilSh).2 = true; unfold nilSh; rw [levP_mk, levsP]
    | cons s t =>
      show (levP s).2 = true
      rw [hh s (by rw [hq]; exact List.mem_cons_self)]
-- places
def lowS (s : Sh) : Int := ((allSh s).getD 0 (0, 0)).1
def PlOk (s : Sh) : Prop := ∀ f1 f2 t1 t2, (f1 = true → ∀ x ∈ allSh s, f2 ≤ x.1) → (t1 = true → ∀ x ∈ allSh s, x.1 < t2) → placedP s f1 f2 t1 t2 = true
theorem srt_sub {a b : List (Int × Int)} (h : Srt (a ++ b)) : Srt a ∧ Srt b ∧ ∀ x ∈ a, ∀ y ∈ b, x.1 < y.1 := List.pairwise_append.1 h
theorem srt_parts : ∀ (l : List Sh), Srt (allShs l) → (∀ s ∈ l, Srt (allSh s)) ∧ ∀ (i j : Nat) (s t : Sh), l[i]? = some s → l[j]? = some t → i < j → ∀ x ∈ allSh s, ∀ y ∈ allSh t, x.1 < y.1
  | [], _ => ⟨by simp, fun i j s t h => by simp at h⟩
  | a :: l, h => by
    rw [allShs_cons] at h
    obtain ⟨h1, h2, h3⟩ := srt_sub h
    obtain ⟨i1, i2⟩ := srt_parts l h2
    refine ⟨fun s hs => ?_, fun i j s t hi hj hij x hx y hy => ?_⟩
    · rcases List.mem_cons.1 hs with rfl | hs
      · exact h1
      · exact i1 s hs
    · cases j with
      | zero => omega
      | succ j =>
        have hj : l[j]? = some t := by simpa using hj
        have hyl : y ∈ allShs l := mem_allShs l j t hj y hy
        cases i with
        | zero =>
          simp at hi
          subst hi
          exact h3 x hx y hyl
        | succ i => exact i2 i j s t (by simpa using hi) hj (by omega) x hx y hy
where mem_allShs : ∀ (l : List Sh) (i : Nat) (s : Sh), l[i]? = some s → ∀ x ∈ allSh s, x ∈ allShs l
  | [], i, s, h, _, _ => by simp at h
  | a :: l, 0, s, h, x, hx => by
    simp at h
    subst h
    rw [allShs_cons]
    exact List.mem_append_left _ hx
  | a :: l, i + 1, s, h, x, hx => by
    rw [allShs_cons]
    exact List.mem_append_right _ (mem_allShs l i s (by simpa using h) x hx)
theorem low_mem {s : Sh} (h : allSh s ≠ []) : ∃ x ∈ allSh s, x.1 = lowS s := by
  cases hq : allSh s with
  | nil => exact absurd hq h
  | cons a t => exact ⟨a, List.mem_cons_self, by unfold lowS; rw [hq]; rfl⟩
theorem low_le {s : Sh} (h : Srt (allSh s)) : ∀ x ∈ allSh s, lowS s ≤ x.1 := by
  intro x hx
  cases hq : allSh s with
  | nil => rw [hq] at hx; simp at hx
  | cons a t =>
    have e : lowS s = a.1 := by unfold lowS; rw [hq]; rfl
    rw [hq] at h hx
    rw [e]
    rcases List.mem_cons.1 hx with rfl | hx
    · exact Int.le_refl _
    · exact Int.le_of_lt ((List.pairwise_cons.1 h).1 x hx)
structure RowOk (row : List Sh) (fs : List Int) : Prop where
  srt : Srt (allShs row)
  ne : ∀ s ∈ row, allSh s ≠ []
  pl : ∀ s ∈ row, PlOk s
  fs : fs = row.map lowS
theorem okKeys_of {l : List Int} {f1 : Bool} {f2 : Int} {t1 : Bool} {t2 : Int} (h1 : f1 = true → ∀ k ∈ l, f2 ≤ k) (h2 : t1 = true → ∀ k ∈ l, k < t2) (h3 : ∀ i, 0 < i → i < l.length → l.getD (i - 1) 0 < l.getD i 0) : okKeys l f1 f2 t1 t2 = true := by
  unfold okKeys
  rw [List.all_eq_true]
  intro i hi
  rw [List.mem_range] at hi
  have hm : l.getD i 0 ∈ l := by
    rw [List.getD_eq_getElem?_getD, List.getElem?_eq_getElem hi]
    exact List.getElem_mem hi
  unfold okAt
  have a1 : (f1 && decide (l.getD i 0 < f2)) = false := by
    cases f1 with
    | false => rfl
    | true => have := h1 rfl _ hm; rw [decide_eq_false (by omega)]; rfl
  have a2 : (t1 && decide (t2 ≤ l.getD i 0)) = false := by
    cases t1 with
    | false => rfl
    | true => have := h2 rfl _ hm; rw [decide_eq_false (by omega)]; rfl
  have a3 : (decide (0 < i) && decide (l.getD i 0 ≤ l.getD (i - 1) 0)) = false := by
    by_cases h : 0 < i
    · have := h3 i h hi
      rw [decide_eq_false (by omega : ¬ l.getD i 0 ≤ l.getD (i - 1) 0), Bool.and_false]
    · rw [decide_eq_false h]; rfl
  rw [a1, a2, a3]
  rfl
theorem plok_leaf {ps : List (Int × Int)} (h : Srt ps) : PlOk (.mk true false ps [] []) := by
  intro f1 f2 t1 t2 h1 h2
  have ea : allSh (.mk true false ps [] []) = ps := by rw [allSh_mk]; simp [allShs]
  rw [ea] at h1 h2
  rw [placedP_mk, placedsP, List.nil_append, okKeys_of (fun hf k hk => ?_) (fun ht k hk => ?_) (fun i h0 hi => ?_)]
  · rfl
  · obtain ⟨x, hx, rfl⟩ := List.mem_map.1 hk
    exact h1 hf x hx
  · obtain ⟨x, hx, rfl⟩ := List.mem_map.1 hk
    exact h2 ht x hx
  · rw [List.length_map] at hi
    have hi1 : i - 1 < ps.length := by omega
    rw [List.getD_eq_getElem?_getD, List.getD_eq_getElem?_getD, List.getElem?_map, List.getElem?_map, List.getElem?_eq_getElem hi, List.getElem?_eq_getElem hi1]
    exact (List.pairwise_iff_getElem.1 h) (i - 1) i hi1 hi (by omega)
theorem plok_node {kids : List Sh} (hK : 1 ≤ kids.length) (h : RowOk kids (kids.map lowS)) : PlOk (.mk false false [] ((kids.map lowS).drop 1) kids) := by
  intro f1 f2 t1 t2 h1 h2
  have ea : allSh (.mk false false [] ((kids.map lowS).drop 1) kids) = allShs kids := by rw [allSh_mk]; rfl
  rw [ea] at h1 h2
  obtain ⟨p1, p2⟩ := srt_parts kids h.srt
  have hkey : ∀ i, i + 1 < kids.length → ∃ s, kids[i + 1]? = some s ∧ ((kids.map lowS).drop 1).getD i 0 = lowS s := fun i hi => by
    refine ⟨_, List.getElem?_eq_getElem hi, ?_⟩
    rw [List.getD_eq_getElem?_getD, List.getElem?_drop, Nat.add_comm 1 i, List.getElem?_map, List.getElem?_eq_getElem hi]
    rfl
  have hlen : ((kids.map lowS).drop 1).length = kids.length - 1 := by simp
  rw [placedP_mk, List.map_nil, List.append_nil]
  have hform : okForm false ((kids.map lowS).drop 1).length kids.length = true := by
    unfold okForm
    rw [hlen, beq_eq_false_iff_ne.2 (by omega : ¬ kids.length = 0)]
    simp
    omega
  rw [hform, okKeys_of (fun hf k hk => ?_) (fun ht k hk => ?_) (fun i h0 hi => ?_)]
  · simp only [Bool.true_and, Bool.and_true]
    have key : ∀ (l : List Sh) (i : Nat), kids.drop i = l → placedsP ((kids.map lowS).drop 1) l i f1 f2 t1 t2 = true := by
      intro l
      induction l with
      | nil => intro i _; rw [placedsP]
      | cons s l ih =>
        intro i hd
        have hi : i < kids.length := by
          have := congrArg List.length hd
          rw [List.length_drop] at this
          simp at this
          omega
        have hs : kids[i]? = some s := by
          have : (kids.drop i)[0]? = some s := by rw [hd]; rfl
          rwa [List.getElem?_drop, Nat.add_zero] at this
        have hsm : s ∈ kids := List.mem_of_getElem? hs
        have hd2 : kids.drop (i + 1) = l := by
          have : (kids.drop i).drop 1 = l := by rw [hd]; rfl
          rwa [List.drop_drop] at this
        rw [placedsP_cons, ih (i + 1) hd2, Bool.and_true]
        refine h.pl s hsm _ _ _ _ (fun hf x hx => ?_) (fun ht x hx => ?_)
        · by_cases h0 : 0 < i
          · rw [if_pos h0]
            obtain ⟨s', e1, e2⟩ := hkey (i - 1) (by omega)
            rw [show i - 1 + 1 = i by omega, hs] at e1
            simp at e1
            subst e1
            rw [e2]
            exact low_le (p1 s hsm) x hx
          · rw [if_neg h0] at hf ⊢
            exact h1 hf x (srt_parts.mem_allShs kids i s hs x hx)
        · by_cases h0 : i < ((kids.map lowS).drop 1).length
          · rw [if_pos h0]
            rw [hlen] at h0
            obtain ⟨s', e1, e2⟩ := hkey i (by omega)
            rw [e2]
            obtain ⟨y, hy, hy2⟩ := low_mem (h.ne s' (List.mem_of_getElem? e1))
            rw [← hy2]
            exact p2 i (i + 1) s s' hs e1 (by omega) x hx y hy
          · rw [if_neg h0] at ht ⊢
            exact h2 ht x (srt_parts.mem_allShs kids i s hs x hx)
    exact key kids 0 rfl
  · have hk2 := List.mem_of_mem_drop hk
    obtain ⟨s, hs, rfl⟩ := List.mem_map.1 hk2
    obtain ⟨y, hy, hy2⟩ := low_mem (h.ne s hs)
    obtain ⟨i, hi⟩ := List.getElem?_of_mem hs
    rw [← hy2]
    exact h1 hf y (srt_parts.mem_allShs kids i s hi y hy)
  · have hk2 := List.mem_of_mem_drop hk
    obtain ⟨s, hs, rfl⟩ := List.mem_map.1 hk2
    obtain ⟨y, hy, hy2⟩ := low_mem (h.ne s hs)
    obtain ⟨i, hi⟩ := List.getElem?_of_mem hs
    rw [← hy2]
    exact h2 ht y (srt_parts.mem_allShs kids i s hi y hy)
  · rw [hlen] at hi
    obtain ⟨s, e1, e2⟩ := hkey i (by omega)
    obtain ⟨s', e3, e4⟩ := hkey (i - 1) (by omega)
    rw [e2, e4]
    rw [show i - 1 + 1 = i by omega] at e3
    obtain ⟨x, hx, hx2⟩ := low_mem (h.ne s (List.mem_of_getElem? e1))
    obtain ⟨y, hy, hy2⟩ := low_mem (h.ne s' (List.mem_of_getElem? e3))
    rw [← hx2, ← hy2]
    exact p2 i (i + 1) s' s e3 e1 (by omega) y hy x hx
theorem RowOk.takeN {row : List Sh} {fs : List Int} (h : RowOk row fs) (k : Nat) : RowOk (row.take k) (fs.take k) := by
  have e := allShs_append (row.take k) (row.drop k)
  rw [List.take_append_drop] at e
  have := h.srt
  rw [e] at this
  exact ⟨(srt_sub this).1, fun s hs => h.ne s (List.mem_of_mem_take hs), fun s hs => h.pl s (List.mem_of_mem_take hs), by rw [h.fs, List.map_take]⟩
theorem RowOk.dropN {row : List Sh} {fs : List Int} (h : RowOk row fs) (k : Nat) : RowOk (row.drop k) (fs.drop k) := by
  have e := allShs_append (row.take k) (row.drop k)
  rw [List.take_append_drop] at e
  have := h.srt
  rw [e] at this
  exact ⟨(srt_sub this).2.1, fun s hs => h.ne s (List.mem_of_mem_drop hs), fun s hs => h.pl s (List.mem_of_mem_drop hs), by rw [h.fs, List.map_drop]⟩
theorem row_leaf : ∀ (ps : List Nat) (l : List (Int × Int)), (∀ k ∈ ps, 1 ≤ k) → ps.sum = l.length → Srt l → RowOk (leafShs ps l) (leafKeys ps l)
  | [], l, _, _, _ => ⟨by simp [leafShs, allShs, Srt], by simp [leafShs], by simp [leafShs], by simp [leafShs, leafKeys]⟩
  | k :: t, l, hk, hs, hl => by
    have hk1 := hk k List.mem_cons_self
    simp only [List.sum_cons] at hs
    have hl' := hl
    rw [← List.take_append_drop k l] at hl'
    obtain ⟨s1, s2, s3⟩ := srt_sub hl'
    have ih := row_leaf t (l.drop k) (fun x hx => hk x (List.mem_cons_of_mem _ hx)) (by rw [List.length_drop]; omega) s2
    have hall : allShs (leafShs (k :: t) l) = l := all_leaf (k :: t) l (by simp only [List.sum_cons]; omega)
    have ea : allSh (.mk true false (l.take k) [] []) = l.take k := by rw [allSh_mk]; simp [allShs]
    have hne : l.take k ≠ [] := fun e => by
      have h9 : (l.take k).length = 0 := by rw [e]; rfl
      rw [List.length_take] at h9
      omega
    rw [leafShs, leafKeys] at *
    refine ⟨by rw [hall]; exact hl, fun s hs => ?_, fun s hs => ?_, ?_⟩
    · rcases List.mem_cons.1 hs with rfl | hs
      · rw [ea]; exact hne
      · exact ih.ne s hs
    · rcases List.mem_cons.1 hs with rfl | hs
      · exact plok_leaf s1
      · exact ih.pl s hs
    · rw [List.map_cons, ← ih.fs]
      congr 1
      unfold lowS
      rw [ea]
      rw [List.getD_eq_getElem?_getD, List.getD_eq_getElem?_getD, List.getElem?_take, if_pos (by omega)]
theorem row_up : ∀ (ps : List Nat) (row : List Sh) (fs : List Int), (∀ k ∈ ps, 1 ≤ k) → ps.sum = row.length → RowOk row fs → RowOk (upShs ps row fs) (upKeys ps fs)
  | [], row, fs, _, _, _ => ⟨by simp [upShs, allShs, Srt], by simp [upShs], by simp [upShs], by simp [upShs, upKeys]⟩
  | k :: t, row, fs, hk, hs, hr => by
    have hk1 := hk k List.mem_cons_self
    simp only [List.sum_cons] at hs
    have ih := row_up t (row.drop k) (fs.drop k) (fun x hx => hk x (List.mem_cons_of_mem _ hx)) (by rw [List.length_drop]; omega) (hr.dropN k)
    have hall : allShs (upShs (k :: t) row fs) = allShs row := all_up (k :: t) row fs (by simp only [List.sum_cons]; omega)
    have ht := hr.takeN k
    have hfs : fs.take k = (row.take k).map lowS := ht.fs
    have hlen : 1 ≤ (row.take k).length := by rw [List.length_take]; omega
    have ea : allSh (.mk false false [] ((fs.take k).drop 1) (row.take k)) = allShs (row.take k) := by rw [allSh_mk]; rfl
    obtain ⟨s0, t0, hst⟩ : ∃ s0 t0, row.take k = s0 :: t0 := by
      cases hq : row.take k with
      | nil => rw [hq] at hlen; simp at hlen
      | cons a b => exact ⟨a, b, rfl⟩
    have hs0 : s0 ∈ row.take k := by rw [hst]; exact List.mem_cons_self
    have hne0 := ht.ne s0 hs0
    have hlow : lowS (.mk false false [] ((fs.take k).drop 1) (row.take k)) = lowS s0 := by
      unfold lowS
      rw [ea, hst, allShs_cons]
      cases hq : allSh s0 with
      | nil => exact absurd hq hne0
      | cons a b => rfl
    rw [upShs, upKeys] at *
    refine ⟨by rw [hall]; exact hr.srt, fun s hs => ?_, fun s hs => ?_, ?_⟩
    · rcases List.mem_cons.1 hs with rfl | hs
      · rw [ea, hst, allShs_cons]
        intro e
        have := List.append_eq_nil_iff.1 e
        exact hne0 this.1
      · exact ih.ne s hs
    · rcases List.mem_cons.1 hs with rfl | hs
      · rw [hfs]
        exact plok_node hlen (by rw [← hfs]; exact ht)
      · exact ih.pl s hs
    · rw [List.map_cons, ← ih.fs, hlow]
      congr 1
      have h0 : (fs.take k)[0]? = some (lowS s0) := by rw [hfs, hst]; rfl
      rw [List.getElem?_take, if_pos (by omega)] at h0
      rw [List.getD_eq_getElem?_getD, h0]
      rfl
theorem row_evenUp {b : Nat} (hb : 2 ≤ b) : ∀ (f : Nat) (row : List Sh) (fs : List Int), RowOk row fs → ∀ s ∈ evenUp b f row fs, PlOk s
  | 0, row, fs, h => by rw [evenUp]; exact h.pl
  | f + 1, row, fs, h => by
    rw [evenUp]
    split
    · exact h.pl
    · exact row_evenUp hb f _ _ (row_up _ row fs (parts_pos (by omega) (by omega)) (partsN_sum _ _) h)
theorem placed_even {b : Nat} (hb : 2 ≤ b) {l : List (Int × Int)} (h : Srt l) : placedP (evenSh b l) false 0 false 0 = true := by
  unfold evenSh
  split
  · exact plok_leaf (ps := []) List.Pairwise.nil false 0 false 0 (by simp) (by simp)
  · rename_i hl
    have hl1 : 1 ≤ l.length := by
      cases l with
      | nil => exact absurd rfl hl
      | cons a t => simp
    have hr := row_evenUp hb l.length _ _ (row_leaf (partsN l.length b) l (parts_pos hl1 (by omega)) (partsN_sum _ _) h)
    cases hq : evenUp b l.length (leafShs (partsN l.length b) l) (leafKeys (partsN l.length b) l) with
    | nil => exact plok_leaf (ps := []) List.Pairwise.nil false 0 false 0 (by simp) (by simp)
    | cons s t => exact hr s (by rw [hq]; exact List.mem_cons_self) false 0 false 0 (by simp) (by simp)
-- sizes
theorem part_size {n b a i : Nat} (hb : 1 ≤ b) (ha : 2 * a ≤ b + 1) (hn : 1 ≤ n) (hk : 2 ≤ partK n b) : a ≤ partAt n b i := by
  have h0 : partK n b = (n - 1) / b + 1 := rfl
  obtain ⟨k, hkk⟩ : ∃ k, partK n b = k := ⟨_, rfl⟩
  rw [hkk] at h0 hk
  have h1 : (n - 1) / b = k - 1 := by omega
  have h2 := Nat.div_mul_le_self (n - 1) b
  rw [h1] at h2
  have h3 : a * k ≤ n := by
    have e1 : (k - 1) * b + 1 ≤ n := by omega
    obtain ⟨j, rfl⟩ : ∃ j, k = j + 2 := ⟨k - 2, by omega⟩
    have e2 : (j + 2 - 1) * b = j * b + b := by rw [show j + 2 - 1 = j + 1 by omega, Nat.add_mul]; omega
    rw [e2] at e1
    have e3 : 2 * (a * (j + 2)) = (2 * a) * j + 2 * (2 * a) := by rw [Nat.mul_add, Nat.mul_add, ← Nat.mul_assoc]; omega
    have e4 : (2 * a) * j ≤ (b + 1) * j := Nat.mul_le_mul_right j ha
    have e5 : (b + 1) * j = b * j + j := by rw [Nat.add_mul]; omega
    have e6 : j * 1 ≤ j * b := Nat.mul_le_mul_left j hb
    have e7 : j * b = b * j := Nat.mul_comm j b
    omega
  have h4 : a ≤ n / k := (Nat.le_div_iff_mul_le (by omega)).2 h3
  unfold partAt
  rw [hkk]
  exact Nat.le_trans h4 (Nat.le_add_right _ _)
/-- Nothing is wrong in a tree that is no root. -/
def Good (a : Int) (s : Sh) : Prop := waysN s a false true false = 0 ∧ waysN s a false false false = 0
theorem ways_all (a : Int) (tgd : Bool) : ∀ (l : List Sh), (∀ s ∈ l, waysN s a false tgd false = 0) → waysNs l a tgd false = 0
  | [], _ => by rw [waysNs]
  | s :: l, h => by rw [waysNs, h s List.mem_cons_self, ways_all a tgd l (fun x hx => h x (List.mem_cons_of_mem _ hx))]
theorem ways_ok {lf : Bool} {ps : List (Int × Int)} {ks : List Int} {kids : List Sh} {a : Int} {root : Bool} (hf : fewSh (.mk lf false ps ks kids) a root = false) (hk : ∀ s ∈ kids, Good a s) (tgd : Bool) : waysN (.mk lf false ps ks kids) a root tgd false = 0 := by
  have hb : badSh (.mk lf false ps ks kids) a root = false := by unfold badSh; rw [hf]; rfl
  rw [waysN_mk, hb, if_neg (by simp), if_neg (by simp), ways_all a tgd kids (fun s hs => by cases tgd; exact (hk s hs).2; exact (hk s hs).1)]
structure SizeOk (a : Int) (row : List Sh) : Prop where
  many : 2 ≤ row.length → ∀ s ∈ row, Good a s
  one : row.length = 1 → ∀ s ∈ row, ∀ tgd, waysN s a true tgd false = 0
theorem size_leaf {b n a : Nat} (hb : 1 ≤ b) (ha : 2 * a ≤ b + 1) {l : List (Int × Int)} (hn : 1 ≤ l.length) : SizeOk a (leafShs (partsN l.length b) l) := by
  have key : ∀ (ps : List Nat) (l : List (Int × Int)), ps.sum ≤ l.length → (∀ k ∈ ps, a ≤ k) → ∀ s ∈ leafShs ps l, Good a s := by
    intro ps
    induction ps with
    | nil => intro l _ _ s hs; simp [leafShs] at hs
    | cons k t ih =>
      intro l hs hk s hm
      simp only [List.sum_cons] at hs
      rw [leafShs] at hm
      rcases List.mem_cons.1 hm with rfl | hm
      · have hf : fewSh (.mk true false (l.take k) [] []) a false = false := by
          unfold fewSh sizeSh
          have := hk k List.mem_cons_self
          simp [Sh.lf, Sh.ps]
          omega
        exact ⟨ways_ok hf (by simp) true, ways_ok hf (by simp) false⟩
      · exact ih (l.drop k) (by rw [List.length_drop]; omega) (fun x hx => hk x (List.mem_cons_of_mem _ hx)) s hm
  refine ⟨fun h2 => key _ l (by rw [partsN_sum]; exact Nat.le_refl _) (fun k hk => ?_), fun h1 s hs tgd => ?_⟩
  · rw [leafShs_len, partsN_len] at h2
    unfold partsN at hk
    obtain ⟨i, _, rfl⟩ := List.mem_map.1 hk
    exact part_size hb ha hn h2
  · have : ∀ (ps : List Nat) (l : List (Int × Int)), ∀ s ∈ leafShs ps l, ∃ q, s = .mk true false q [] [] := by
      intro ps
      induction ps with
      | nil => intro l s hs; simp [leafShs] at hs
      | cons k t ih =>
        intro l s hs
        rw [leafShs] at hs
        rcases List.mem_cons.1 hs with rfl | hs
        · exact ⟨_, rfl⟩
        · exact ih _ s hs
    obtain ⟨q, rfl⟩ := this _ _ s hs
    exact ways_ok (by unfold fewSh; simp [Sh.lf]) (by simp) tgd
theorem up_form : ∀ (ps : List Nat) (row : List Sh) (fs : List Int) (s : Sh), s ∈ upShs ps row fs → ps.sum ≤ row.length → ∃ ks kids, s = .mk false false [] ks kids ∧ kids.length ∈ ps ∧ ∀ x ∈ kids, x ∈ row
  | [], row, fs, s, hs, _ => by simp [upShs] at hs
  | k :: t, row, fs, s, hs, hl => by
    simp only [List.sum_cons] at hl
    rw [upShs] at hs
    rcases List.mem_cons.1 hs with rfl | hs
    · exact ⟨_, _, rfl, by rw [List.length_take, Nat.min_eq_left (by omega)]; exact List.mem_cons_self, fun x hx => List.mem_of_mem_take hx⟩
    · obtain ⟨ks, kids, e, h1, h2⟩ := up_form t (row.drop k) (fs.drop k) s hs (by rw [List.length_drop]; omega)
      exact ⟨ks, kids, e, List.mem_cons_of_mem _ h1, fun x hx => List.mem_of_mem_drop (h2 x hx)⟩
theorem size_up {b a : Nat} (hb : 2 ≤ b) (ha : 2 * a ≤ b + 1) {row : List Sh} {fs : List Int} (hr : 2 ≤ row.length) (h : SizeOk a row) : SizeOk a (upShs (partsN row.length b) row fs) := by
  refine ⟨fun h2 s hs => ?_, fun h1 s hs tgd => ?_⟩
  · rw [upShs_len, partsN_len] at h2
    obtain ⟨ks, kids, rfl, e1, e2⟩ := up_form _ row fs s hs (by rw [partsN_sum]; exact Nat.le_refl _)
    have e3 : a ≤ kids.length := by
      unfold partsN at e1
      obtain ⟨i, _, e⟩ := List.mem_map.1 e1
      rw [← e]
      exact part_size (by omega) ha (by omega) h2
    have hf : fewSh (.mk false false [] ks kids) a false = false := by
      unfold fewSh sizeSh
      simp [Sh.lf, Sh.kids]
      omega
    exact ⟨ways_ok hf (fun x hx => h.many hr x (e2 x hx)) true, ways_ok hf (fun x hx => h.many hr x (e2 x hx)) false⟩
  · rw [upShs_len, partsN_len] at h1
    obtain ⟨ks, kids, rfl, e1, e2⟩ := up_form _ row fs s hs (by rw [partsN_sum]; exact Nat.le_refl _)
    have e3 : kids.length = row.length := by
      have h3 := partsN_sum row.length b
      have h4 : (partsN row.length b).length = 1 := by rw [partsN_len]; exact h1
      match hq : partsN row.length b, h4 with
      | [x], _ =>
        rw [hq] at e1 h3
        simp at e1 h3
        omega
    have hf : fewSh (.mk false false [] ks kids) a true = false := by
      have e9 : fewSh (.mk false false [] ks kids) a true = decide (kids.length < 2) := rfl
      rw [e9]
      exact decide_eq_false (by omega)
    exact ways_ok hf (fun x hx => h.many hr x (e2 x hx)) tgd
theorem size_evenUp {b a : Nat} (hb : 2 ≤ b) (ha : 2 * a ≤ b + 1) : ∀ (f : Nat) (row : List Sh) (fs : List Int), SizeOk a row → SizeOk a (evenUp b f row fs)
  | 0, row, fs, h => by rw [evenUp]; exact h
  | f + 1, row, fs, h => by
    rw [evenUp]
    split
    · exact h
    · exact size_evenUp hb ha f _ _ (size_up hb ha (by omega) h)
theorem wrongs_even {b a : Nat} (hb : 2 ≤ b) (ha : 2 * a ≤ b + 1) (l : List (Int × Int)) : wrongsP (evenSh b l) a = 0 := by
  have hnil : ∀ tgd, waysN nilSh a true tgd false = 0 := fun tgd => ways_ok (by unfold fewSh; simp [Sh.lf]) (by simp) tgd
  unfold wrongsP evenSh
  split
  · rw [hnil, hnil]
  · rename_i hl
    have hl1 : 1 ≤ l.length := by
      cases l with
      | nil => exact absurd rfl hl
      | cons a t => simp
    have h1 := evenUp_one hb l.length (leafShs (partsN l.length b) l) (leafKeys (partsN l.length b) l) (by rw [leafShs_len, partsN_len]; exact partK_pos _ _) (by rw [leafShs_len, partsN_len]; have := partK_le (k := l.length) (show 1 ≤ b by omega) hl1; omega)
    have h2 := size_evenUp hb ha l.length _ (leafKeys (partsN l.length b) l) (size_leaf (n := 0) (by omega) ha hl1)
    match hq : evenUp b l.length (leafShs (partsN l.length b) l) (leafKeys (partsN l.length b) l), h1 with
    | [s], _ =>
      rw [hq] at h2
      show waysN s a true true false + waysN s a true false false = 0
      rw [h2.one rfl s List.mem_cons_self, h2.one rfl s List.mem_cons_self]
end Go.Proofs.Ytkbnoceekileiaa
