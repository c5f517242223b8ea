/- Rising pairs; the arena behind a load into a fresh world; how deep an even tree is. No program. -/
import Derived.Test.YtkbnoceekileiaaLdc
import Derived.Test.YtkbnoceekileiaaMrg
namespace Go.Proofs.Ytkbnoceekileiaa
open Go Go.RowKit
set_option linter.unusedVariables false
set_option linter.unusedSimpArgs false
set_option maxRecDepth 100000
/-- Keys that rise. -/
def Srt (l : List (Int × Int)) : Prop := l.Pairwise fun a b => a.1 < b.1
theorem Srt.rises {l : List (Int × Int)} (h : Srt l) : RisesP l := fun i hi => by
  have h1 := (List.pairwise_iff_getElem.1 h) i (i + 1) (by omega) hi (by omega)
  rw [key_is (List.getElem?_eq_getElem (by omega)), key_is (List.getElem?_eq_getElem hi)]
  exact h1
theorem RisesP.lt {l : List (Int × Int)} (h : RisesP l) : ∀ (d i : Nat), i + d + 1 < l.length → key l i < key l (i + d + 1)
  | 0, i, hi => h i hi
  | d + 1, i, hi => by
    have h1 := RisesP.lt h d i (by omega)
    have h2 := h (i + d + 1) (by omega)
    exact Int.lt_trans h1 h2
theorem RisesP.srt {l : List (Int × Int)} (h : RisesP l) : Srt l := by
  refine List.pairwise_iff_getElem.2 fun i j hi hj hij => ?_
  have h1 := h.lt (j - i - 1) i (by omega)
  rw [show i + (j - i - 1) + 1 = j by omega, key_is (List.getElem?_eq_getElem hi), key_is (List.getElem?_eq_getElem hj)] at h1
  exact h1
theorem putG_mem : ∀ (l : List (Int × Int)) (k v : Int) (d : Bool) (x : Int × Int), x ∈ putL.putG l k v d → (d = false ∧ x = (k, v)) ∨ (x ∈ l ∧ x.1 ≠ k)
  | [], k, v, d, x, h => by
    cases d with
    | true => simp [putL.putG] at h
    | false => simp [putL.putG] at h; exact .inl ⟨rfl, h⟩
  | p :: l, k, v, d, x, h => by
    rw [putG_cons] at h
    simp only [List.mem_append] at h
    rcases h with (h | h) | h
    · split at h
      · rename_i hc
        simp at h
        exact .inl ⟨hc.1, h⟩
      · simp at h
    · split at h
      · simp at h
      · rename_i hc
        simp at h
        subst h
        exact .inr ⟨List.mem_cons_self, hc⟩
    · rcases putG_mem l k v _ x h with ⟨h1, h2⟩ | ⟨h1, h2⟩
      · left
        exact ⟨by cases d <;> simp_all, h2⟩
      · exact .inr ⟨List.mem_cons_of_mem _ h1, h2⟩
theorem putG_srt : ∀ (l : List (Int × Int)) (k v : Int) (d : Bool), Srt l → Srt (putL.putG l k v d)
  | [], k, v, d, _ => by cases d <;> simp [putL.putG, Srt]
  | p :: l, k, v, d, h => by
    have h1 : Srt l := (List.pairwise_cons.1 h).2
    have h2 := (List.pairwise_cons.1 h).1
    have ih := putG_srt l k v (d || decide (k ≤ p.1)) h1
    rw [putG_cons]
    have hb : ∀ x ∈ putL.putG l k v (d || decide (k ≤ p.1)), (k ≤ p.1 ∧ p.1 < x.1) ∨ (p.1 < k ∧ p.1 < x.1) := fun x hx => by
      rcases putG_mem l k v _ x hx with ⟨e1, e2⟩ | ⟨e1, e2⟩
      · subst e2
        have e3 : ¬ k ≤ p.1 := fun e => by simp [e] at e1
        exact .inr ⟨by omega, by show p.1 < k; omega⟩
      · have := h2 x e1
        by_cases e : k ≤ p.1
        · exact .inl ⟨e, this⟩
        · exact .inr ⟨by omega, this⟩
    have hmid : Srt ((if p.1 = k then [] else [p]) ++ putL.putG l k v (d || decide (k ≤ p.1))) := by
      split
      · exact ih
      · exact List.pairwise_cons.2 ⟨fun x hx => by rcases hb x hx with h | h <;> exact h.2, ih⟩
    split
    · rename_i hc
      rw [List.append_assoc]
      show Srt ((k, v) :: ((if p.1 = k then [] else [p]) ++ putL.putG l k v (d || decide (k ≤ p.1))))
      refine List.pairwise_cons.2 ⟨fun x hx => ?_, hmid⟩
      show k < x.1
      rcases List.mem_append.1 hx with hx | hx
      · split at hx
        · simp at hx
        · rename_i hne
          simp at hx
          subst hx
          have := hc.2
          omega
      · rcases hb x hx with h | h
        · omega
        · omega
    · exact hmid
theorem risingL_srt : ∀ (l : List Int) (i : Nat) (out : List (Int × Int)), Srt out → Srt (risingL l i out)
  | [], _, _, h => h
  | k :: l, i, out, h => risingL_srt l (i + 1) _ (putG_srt out k _ false h)
theorem risingA_rises (l : List Int) : RisesP (risingA l) := (risingL_srt l 0 [] List.Pairwise.nil).rises
theorem putG_ne : ∀ (l : List (Int × Int)) (k v : Int), putL.putG l k v false ≠ []
  | [], k, v => by simp [putL.putG]
  | p :: l, k, v => by
    rw [putG_cons]
    by_cases h : k ≤ p.1
    · simp [h]
    · have := putG_ne l k v
      simp [h, this]
theorem risingL_ne : ∀ (l : List Int) (i : Nat) (out : List (Int × Int)), out ≠ [] → risingL l i out ≠ []
  | [], _, _, h => h
  | k :: l, i, out, h => risingL_ne l (i + 1) _ (putG_ne out k _)
theorem risingA_nil {l : List Int} : risingA l = [] ↔ l = [] := by
  cases l with
  | nil => simp [risingA, risingL]
  | cons k l =>
    refine ⟨fun h => ?_, fun h => by simp at h⟩
    exact absurd h (risingL_ne l 1 _ (putG_ne [] k _))
theorem risingA_le (l : List Int) : (risingA l).length ≤ l.length := by
  have := risingA_len l l.length (Nat.le_refl _)
  rwa [List.take_length] at this
/-- The arena behind a load: the first root is free, the entry leads to the new one. -/
def frA (n r : Int) : Ar := ⟨[⟨rootNd, [], 0, false, 1, false⟩, ⟨entryNd, [r], 0, false, 1, true⟩], [0], n, 1, 0⟩
theorem slots_cons (nds : List Nd) (n : Int) : (addAr (newAr2 n) nds).slots = ⟨rootNd, [], 0, false, 1, true⟩ :: ⟨entryNd, [rootR], 0, false, 1, true⟩ :: nds.map (fun nd => newSl nd 1) := rfl
theorem at_entry {ar : Ar} {a b : Sl} {l : List Sl} (h : ar.slots = a :: b :: l) (hu : b.used = true) (hc : b.count = 1) : arAt ar entryR = some 1 ∧ ar.at 1 = b := by
  refine ⟨?_, by unfold Ar.at; rw [h]; rfl⟩
  unfold arAt
  dsimp only
  rw [show entryR % 1099511627776 - 1 = 1 from rfl, h]
  rw [if_pos ⟨by decide, by simp; omega, by simpa using hu, by show refOf 1 b.count = _; rw [hc]; rfl⟩]
  rfl
theorem at_root {ar : Ar} {a : Sl} {l : List Sl} (h : ar.slots = a :: l) (hu : a.used = true) (hc : a.count = 1) : arAt ar rootR = some 0 ∧ ar.at 0 = a := by
  refine ⟨?_, by unfold Ar.at; rw [h]; rfl⟩
  unfold arAt
  dsimp only
  rw [show rootR % 1099511627776 - 1 = 0 from rfl, h]
  rw [if_pos ⟨by decide, by simp, by simpa using hu, by show refOf 0 a.count = _; rw [hc]; rfl⟩]
  rfl
theorem load_fresh {c : Wc} {t : Nat} {n k : Int} {b : Nat} {ps : List (Int × Int)} (hc : c.entry = entryR) : (loadW c (wd0 t n k) b rootR ps).ar = addAr (frA n ((loadNds b 2 ps).2.getD 0 0)) (loadNds b 2 ps).1 := by
  show (freeAr rootR (swapWayAr c.entry 0 rootR ((loadNds b 2 ps).2.getD 0 0) (addAr (newAr2 n) (loadNds b 2 ps).1)).2).2 = _
  obtain ⟨e1, e2⟩ := at_entry (slots_cons (loadNds b 2 ps).1 n) rfl rfl
  unfold swapWayAr
  rw [hc, e1]
  dsimp only
  rw [e2, if_pos ⟨by decide, by decide, rfl⟩]
  dsimp only
  obtain ⟨f1, f2⟩ := at_root (ar := (addAr (newAr2 n) (loadNds b 2 ps).1).put 1 ⟨entryNd, [rootR].set (0 : Int).toNat ((loadNds b 2 ps).2.getD 0 0), 0, false, 1, true⟩) (a := ⟨rootNd, [], 0, false, 1, true⟩) (l := ⟨entryNd, [rootR].set (0 : Int).toNat ((loadNds b 2 ps).2.getD 0 0), 0, false, 1, true⟩ :: (loadNds b 2 ps).1.map (fun nd => newSl nd 1)) (by unfold Ar.put; dsimp only; rw [slots_cons]; rfl) rfl rfl
  unfold freeAr
  rw [f1]
  dsimp only
  rw [f2]
  unfold addAr frA newAr2 Ar.put
  simp only [List.cons_append, List.nil_append, List.set_cons_zero, List.set_cons_succ, Ar.mk.injEq, true_and]
  simp
  omega
/-- The even tree stands there. -/
theorem frA_in {n r : Int} {b : Nat} {l : List (Int × Int)} (hl : l ≠ []) (hb : 2 ≤ b) (h : 2 + (loadNds b 2 l).1.length ≤ 65535) : InAr (addAr (frA n r) (loadNds b 2 l).1) (evenSh b l) ((loadNds b 2 l).2.getD 0 0) := by
  have h1 := load_in (ar := frA n r) (b := b) hl h
  have hl1 : 1 ≤ l.length := by
    cases l with
    | nil => exact absurd rfl hl
    | cons a t => simp
  have h2 := evenUp_one hb l.length (leafShs (partsN l.length b) l) (leafKeys (partsN l.length b) l) (by rw [leafShs_len, partsN_len]; exact partK_pos _ _) (by rw [leafShs_len, partsN_len]; have := partK_le (k := l.length) (show 1 ≤ b by omega) hl1; omega)
  unfold evenSh
  rw [if_neg hl]
  obtain ⟨r1, hr1, hin⟩ := InArs.at _ _ 0 _ h1 (List.getElem?_eq_getElem (by omega))
  rw [List.getD_eq_getElem?_getD, List.getElem?_eq_getElem (by omega)]
  have hr1 : (loadNds b 2 l).2[0]? = some r1 := hr1
  rw [List.getD_eq_getElem?_getD, hr1]
  exact hin
theorem nil_in (n : Int) : InAr (newAr2 n) nilSh rootR := by
  obtain ⟨e1, e2⟩ := at_root (ar := newAr2 n) (a := ⟨rootNd, [], 0, false, 1, true⟩) (l := [⟨entryNd, [rootR], 0, false, 1, true⟩]) rfl rfl rfl
  unfold nilSh InAr
  refine ⟨0, e1, ?_⟩
  rw [e2]
  refine ⟨rfl, rfl, rfl, rfl, rfl, rfl, ?_⟩
  unfold InArs
  trivial
theorem dp_leaf : ∀ (ps : List Nat) (l : List (Int × Int)), dpShs (leafShs ps l) ≤ 1
  | [], l => by rw [leafShs, dpShs]; omega
  | k :: t, l => by
    rw [leafShs, dpShs, dpSh, dpShs]
    have := dp_leaf t (l.drop k)
    omega
theorem dpShs_append : ∀ (a b : List Sh), dpShs (a ++ b) = max (dpShs a) (dpShs b)
  | [], b => by rw [List.nil_append, dpShs]; simp
  | s :: a, b => by
    rw [List.cons_append, dpShs, dpShs, dpShs_append a b, Nat.max_assoc]
theorem dp_take (row : List Sh) (k : Nat) : dpShs (row.take k) ≤ dpShs row ∧ dpShs (row.drop k) ≤ dpShs row := by
  have h := dpShs_append (row.take k) (row.drop k)
  rw [List.take_append_drop] at h
  omega
theorem dp_up : ∀ (ps : List Nat) (row : List Sh) (fs : List Int), dpShs (upShs ps row fs) ≤ dpShs row + 1
  | [], row, fs => by rw [upShs, dpShs]; omega
  | k :: t, row, fs => by
    rw [upShs, dpShs, dpSh]
    have h1 := dp_up t (row.drop k) (fs.drop k)
    have h2 := dp_take row k
    omega
theorem dp_evenUp {b : Nat} (hb : 2 ≤ b) : ∀ (k f : Nat) (row : List Sh) (fs : List Int), row.length ≤ 2 ^ k → dpShs (evenUp b f row fs) ≤ dpShs row + k
  | k, 0, row, fs, _ => by rw [evenUp]; omega
  | 0, f + 1, row, fs, h => by
    rw [evenUp, if_pos (by simpa using h)]
    omega
  | k + 1, f + 1, row, fs, h => by
    rw [evenUp]
    split
    · omega
    · rename_i hr
      have h1 := partK_half (k := row.length) hb
      have h2 := dp_evenUp hb k f (upShs (partsN row.length b) row fs) (upKeys (partsN row.length b) fs) (by
        rw [upShs_len, partsN_len]
        have : 2 ^ (k + 1) = 2 * 2 ^ k := by rw [Nat.pow_succ]; omega
        omega)
      have h3 := dp_up (partsN row.length b) row fs
      omega
theorem dp_even {b : Nat} (hb : 2 ≤ b) {l : List (Int × Int)} (h : l.length ≤ 128) : dpSh (evenSh b l) ≤ 40 := by
  unfold evenSh
  split
  · unfold nilSh; rw [dpSh, dpShs]; omega
  · rename_i hl
    have h1 := dp_leaf (partsN l.length b) l
    have h2 : 1 ≤ l.length := by
      cases l with
      | nil => exact absurd rfl hl
      | cons a t => simp
    have h3 := partK_le (k := l.length) (b := b) (by omega) h2
    have h4 := dp_evenUp hb 7 l.length (leafShs (partsN l.length b) l) (leafKeys (partsN l.length b) l) (by rw [leafShs_len, partsN_len]; show _ ≤ 128; omega)
    cases hq : evenUp b l.length (leafShs (partsN l.length b) l) (leafKeys (partsN l.length b) l) with
    | nil => show dpSh nilSh ≤ 40; unfold nilSh; rw [dpSh, dpShs]; omega
    | cons s t =>
      rw [hq, dpShs] at h4
      show dpSh s ≤ 40
      omega
/-- A leaf has no kids. -/
def Leafy (s : Sh) : Prop := s.lf = true → s.kids = []
theorem leafy_leaf : ∀ (ps : List Nat) (l : List (Int × Int)), ∀ s ∈ leafShs ps l, Leafy s
  | [], l, s, h => by simp [leafShs] at h
  | k :: t, l, s, h => by
    rw [leafShs] at h
    rcases List.mem_cons.1 h with rfl | h
    · exact fun _ => rfl
    · exact leafy_leaf t _ s h
theorem leafy_up : ∀ (ps : List Nat) (row : List Sh) (fs : List Int), ∀ s ∈ upShs ps row fs, Leafy s
  | [], row, fs, s, h => by simp [upShs] at h
  | k :: t, row, fs, s, h => by
    rw [upShs] at h
    rcases List.mem_cons.1 h with rfl | h
    · exact fun h => by simp [Sh.lf] at h
    · exact leafy_up t _ _ s h
theorem leafy_evenUp {b : Nat} : ∀ (f : Nat) (row : List Sh) (fs : List Int), (∀ s ∈ row, Leafy s) → ∀ s ∈ evenUp b f row fs, Leafy s
  | 0, row, fs, h => h
  | f + 1, row, fs, h => by
    rw [evenUp]
    split
    · exact h
    · exact leafy_evenUp f _ _ (leafy_up _ _ _)
theorem leafy_even {b : Nat} {l : List (Int × Int)} : Leafy (evenSh b l) := by
  unfold evenSh
  split
  · exact fun _ => rfl
  · cases hq : evenUp b l.length (leafShs (partsN l.length b) l) (leafKeys (partsN l.length b) l) with
    | nil => exact fun _ => rfl
    | cons s t => exact leafy_evenUp l.length _ _ (leafy_leaf _ _) s (by rw [hq]; exact List.mem_cons_self)
/-- A loaded tree is not the empty leaf. -/
theorem even_full {b : Nat} (hb : 2 ≤ b) {l : List (Int × Int)} (hl : l ≠ []) : (evenSh b l).lf = false ∨ (evenSh b l).ps ≠ [] := by
  cases hlf : (evenSh b l).lf with
  | false => exact .inl rfl
  | true =>
    right
    have h1 := leafy_even (b := b) (l := l) hlf
    have h2 := all_even hb l
    intro e
    cases hq : evenSh b l with
    | mk lf tg ps ks kids =>
      rw [hq] at h1 h2 e
      simp only [Sh.kids, Sh.ps] at h1 e
      rw [allSh_mk, e, h1] at h2
      exact hl (by rw [← h2]; simp [allShs])
end Go.Proofs.Ytkbnoceekileiaa
