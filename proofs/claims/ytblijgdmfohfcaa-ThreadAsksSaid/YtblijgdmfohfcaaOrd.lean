/- A region that draws its order, ends with stores (operations ks) and loads, before that, what they change: S holds behind all others. No condition. -/
import Derived.OrdersHeld
import Derived.RegionTactic
import Derived.Deep.RegionHeld3
import Derived.KernelRfl
namespace Go.Proofs.Ytblijgdmfohfcaa
open Go
set_option linter.unusedVariables false
set_option linter.unusedSimpArgs false
section
variable {P : Program} {ops : Array Oper} {Q : Exit → Act → World → Prop} {md : Region.Mode} {S : World → Prop} {ks : List Nat}
/-- In whatever order the rest comes up: S behind each operation but these, and Q at last. -/
def AnyK (P : Program) (md : Region.Mode) (ops : Array Oper) (Q : Exit → Act → World → Prop) (S : World → Prop) (ks : List Nat) : Nat → Array Bool → Act → World → Prop
  | 0, l, a, w => Region.ready md ops l = [] ∧ Q .normal a w
  | n + 1, l, a, w => (Region.ready md ops l = [] → Q .normal a w) ∧ ∀ i ∈ Region.ready md ops l, wpOp P ops Q i (fun a' w' => (i ∉ ks → S w') ∧ AnyK P md ops Q S ks n (l.setIfInBounds i true) a' w') a w
theorem AnyK.any : ∀ (n : Nat) (l : Array Bool) (a : Act) (w : World), AnyK P md ops Q S ks n l a w → wpAny P md ops Q n l a w
  | 0, _, _, _, h => h
  | n + 1, _, _, _, h => ⟨h.1, fun i hi => wpOp_mono (fun a' w' h' => AnyK.any n _ a' w' h'.2) (h.2 i hi)⟩
theorem AnyK.start {id : Nat} {a : Act} {w : World} (hm : P.follows .mixedOrders = true) (hS : S w.drew) (h : S w.drew → AnyK P .any ops Q S ks ops.size (Array.replicate ops.size false) a w.drew) : (Code.region id ops true).wp P Q a w :=
  wp_region_any hm (AnyK.any _ _ _ _ (h hS))
theorem AnyK.done {l : Array Bool} {a : Act} {w : World} (hr : Region.ready md ops l = []) (h : Q .normal a w) : ∀ n, AnyK P md ops Q S ks n l a w
  | 0 => ⟨hr, h⟩
  | _ + 1 => ⟨fun _ => h, by rw [hr]; simp⟩
/-- The only one that may come up. -/
theorem AnyK.one {i : Nat} {o : Oper} {n : Nat} {l : Array Bool} {a : Act} {w : World} (hr : Region.ready md ops l = [i]) (ho : ops[i]? = some o)
    (h : ∀ K' : Act → World → Prop, Shut (∀ a w, (i ∉ ks → S w) → AnyK P md ops Q S ks n (l.setIfInBounds i true) a w → K' a w) → if Region.wanted o (yielded ops a.tmps) = true then Oper.wp P o a w K' Q else K' (a.put o.dst undef) w) : AnyK P md ops Q S ks (n + 1) l a w := by
  refine ⟨fun h0 => (by rw [hr] at h0; cases h0), fun j hj => ?_⟩
  rw [hr, List.mem_singleton] at hj
  subst hj
  exact wpOp_step ho fun K' hK => h K' (fun a w h1 h2 => hK a w ⟨h1, h2⟩)
/-- Those that may come up, two or three. -/
theorem AnyK.two {i j : Nat} {oi oj : Oper} {n : Nat} {l : Array Bool} {a : Act} {w : World} (hr : Region.ready md ops l = [i, j]) (hi : ops[i]? = some oi) (hj : ops[j]? = some oj)
    (h1 : ∀ K' : Act → World → Prop, Shut (∀ a w, (i ∉ ks → S w) → AnyK P md ops Q S ks n (l.setIfInBounds i true) a w → K' a w) → if Region.wanted oi (yielded ops a.tmps) = true then Oper.wp P oi a w K' Q else K' (a.put oi.dst undef) w)
    (h2 : ∀ K' : Act → World → Prop, Shut (∀ a w, (j ∉ ks → S w) → AnyK P md ops Q S ks n (l.setIfInBounds j true) a w → K' a w) → if Region.wanted oj (yielded ops a.tmps) = true then Oper.wp P oj a w K' Q else K' (a.put oj.dst undef) w) : AnyK P md ops Q S ks (n + 1) l a w := by
  refine ⟨fun h0 => (by rw [hr] at h0; cases h0), fun x hx => ?_⟩
  rw [hr] at hx
  simp only [List.mem_cons, List.not_mem_nil, or_false] at hx
  rcases hx with rfl | rfl
  · exact wpOp_step hi fun K' hK => h1 K' (fun a w e1 e2 => hK a w ⟨e1, e2⟩)
  · exact wpOp_step hj fun K' hK => h2 K' (fun a w e1 e2 => hK a w ⟨e1, e2⟩)
theorem AnyK.three {i j m : Nat} {oi oj om : Oper} {n : Nat} {l : Array Bool} {a : Act} {w : World} (hr : Region.ready md ops l = [i, j, m]) (hi : ops[i]? = some oi) (hj : ops[j]? = some oj) (hm : ops[m]? = some om)
    (h1 : ∀ K' : Act → World → Prop, Shut (∀ a w, (i ∉ ks → S w) → AnyK P md ops Q S ks n (l.setIfInBounds i true) a w → K' a w) → if Region.wanted oi (yielded ops a.tmps) = true then Oper.wp P oi a w K' Q else K' (a.put oi.dst undef) w)
    (h2 : ∀ K' : Act → World → Prop, Shut (∀ a w, (j ∉ ks → S w) → AnyK P md ops Q S ks n (l.setIfInBounds j true) a w → K' a w) → if Region.wanted oj (yielded ops a.tmps) = true then Oper.wp P oj a w K' Q else K' (a.put oj.dst undef) w)
    (h3 : ∀ K' : Act → World → Prop, Shut (∀ a w, (m ∉ ks → S w) → AnyK P md ops Q S ks n (l.setIfInBounds m true) a w → K' a w) → if Region.wanted om (yielded ops a.tmps) = true then Oper.wp P om a w K' Q else K' (a.put om.dst undef) w) : AnyK P md ops Q S ks (n + 1) l a w := by
  refine ⟨fun h0 => (by rw [hr] at h0; cases h0), fun x hx => ?_⟩
  rw [hr] at hx
  simp only [List.mem_cons, List.not_mem_nil, or_false] at hx
  rcases hx with rfl | rfl | rfl
  · exact wpOp_step hi fun K' hK => h1 K' (fun a w e1 e2 => hK a w ⟨e1, e2⟩)
  · exact wpOp_step hj fun K' hK => h2 K' (fun a w e1 e2 => hK a w ⟨e1, e2⟩)
  · exact wpOp_step hm fun K' hK => h3 K' (fun a w e1 e2 => hK a w ⟨e1, e2⟩)
/-- k waits for number i. -/
def waitsFor (md : Region.Mode) (ops : Array Oper) (k i : Nat) : Bool := match ops[k]? with | some o => o.after.any fun e => Region.binds md e && e.on == i | none => true
theorem waitsFor_ready {i k : Nat} {l : Array Bool} (h : waitsFor md ops k i = true) (hl : l.getD i true = false) : k ∉ Region.ready md ops l := by
  intro hk
  obtain ⟨_, o, ho, hall⟩ := mem_ready.1 hk
  unfold waitsFor at h
  rw [ho] at h
  obtain ⟨e, he, hb⟩ := Array.any_eq_true'.1 h
  simp only [Bool.and_eq_true, beq_iff_eq] at hb
  have h1 := hall e he hb.1
  rw [hb.2] at h1
  rcases Nat.lt_or_ge i l.size with h' | h'
  · simp [h'] at hl h1; rw [hl] at h1; cases h1
  · simp [Array.getElem?_eq_none h'] at h1
theorem AnyK.first {i : Nat} {oi : Oper} {v : Value} (hi : ops[i]? = some oi) (hsel : ∀ (j : Nat) (o : Oper) cs b, ops[j]? = some o → o.op ≠ .select cs b) (hk : (ks.all fun k => waitsFor md ops k i) = true)
    (hQ : ∀ c a w, Q (.panic c) (a.put oi.dst v) w → Q (.panic c) a w) : ∀ (n : Nat) (l : Array Bool) (a : Act) (w : World),
      (∀ j oj, ops[j]? = some oj → j ≠ i → l.getD j true = false → (∀ e ∈ oj.after, Region.binds md e = true → e.on ≠ i) → oi.apart ops oj = true) →
      i ∈ Region.ready md ops l → YieldsIf P ops S oi v a → S w → AnyK P md ops Q S ks n (l.setIfInBounds i true) (a.put oi.dst v) w → AnyK P md ops Q S ks (n + 1) l a w := by
  intro n
  induction n with
  | zero =>
    intro l a w _ hr hy hS H
    refine ⟨fun h => (by rw [h] at hr; cases hr), fun j hj => ?_⟩
    by_cases hji : j = i
    · subst hji; exact hy.wpOp hi hS ⟨fun _ => hS, H⟩
    · have := ready_mono hj hji
      rw [H.1] at this
      cases this
  | succ n ih =>
    intro l a w hfree hr hy hS H
    refine ⟨fun h => (by rw [h] at hr; cases hr), fun j hj => ?_⟩
    by_cases hji : j = i
    · subst hji; exact hy.wpOp hi hS ⟨fun _ => hS, H⟩
    · have h0 := (mem_ready.1 hr).1
      have hjk : j ∉ ks := fun x => waitsFor_ready (List.all_eq_true.1 hk j x) h0 hj
      have h1 := H.2 j (ready_mono hj hji)
      obtain ⟨hun, oj, hoj, hall⟩ := mem_ready.1 hj
      have hnot : ∀ e ∈ oj.after, Region.binds md e = true → e.on ≠ i := fun e he hb heq => by
        have h1 := hall e he hb
        rw [heq] at h1
        rcases Nat.lt_or_ge i l.size with h' | h'
        · simp [h'] at h0 h1; rw [h0] at h1; cases h1
        · simp [Array.getElem?_eq_none h'] at h1
      have h2 := wpOp_putIf hoj (hfree j oj hoj hji hun hnot) (fun cs b => hsel i oi cs b hi) (fun cs b => hsel j oj cs b hoj) hQ hy h1
      have hfree' : ∀ m om, ops[m]? = some om → m ≠ i → (l.setIfInBounds j true).getD m true = false → (∀ e ∈ om.after, Region.binds md e = true → e.on ≠ i) → oi.apart ops om = true := fun m om hm hmi hu hno => by
        refine hfree m om hm hmi ?_ hno
        by_cases hjm : j = m
        · subst hjm; exact hun
        · rw [getD_set_ne true hjm] at hu; exact hu
      refine wpOp_mono (fun a' w' h3 => ⟨fun _ => h3.2.1 hjk, ih (l.setIfInBounds j true) a' w' hfree' (ready_mono hr (Ne.symm hji)) h3.1 (h3.2.1 hjk) ?_⟩) h2
      rw [Array.setIfInBounds_comm _ _ hji]
      exact h3.2.2
theorem AnyK.take {i : Nat} {oi : Oper} {v : Value} {n : Nat} {l : Array Bool} {a : Act} {w : World} (hi : ops[i]? = some oi) (hs : Region.noSelect ops = true) (hf : Region.free md ops l i = true) (hr : (Region.ready md ops l).contains i = true) (hk : (ks.all fun k => waitsFor md ops k i) = true)
    (hQ : ∀ c a w, Q (.panic c) (a.put oi.dst v) w → Q (.panic c) a w) (hy : YieldsIf P ops S oi v a) (hS : S w) (h : AnyK P md ops Q S ks n (l.setIfInBounds i true) (a.put oi.dst v) w) : AnyK P md ops Q S ks (n + 1) l a w :=
  AnyK.first hi (Region.noSelect_spec hs) hk hQ n l a w (Region.free_spec hi hf) (by simpa using hr) hy hS h
/-- What yields its value in whatever world. -/
theorem AnyK.firstW {i : Nat} {oi : Oper} {v : Value} (hi : ops[i]? = some oi) (hsel : ∀ (j : Nat) (o : Oper) cs b, ops[j]? = some o → o.op ≠ .select cs b)
    (hQ : ∀ c a w, Q (.panic c) (a.put oi.dst v) w → Q (.panic c) a w) : ∀ (n : Nat) (l : Array Bool) (a : Act) (w : World),
      (∀ j oj, ops[j]? = some oj → j ≠ i → l.getD j true = false → (∀ e ∈ oj.after, Region.binds md e = true → e.on ≠ i) → oi.apart ops oj = true) →
      i ∈ Region.ready md ops l → YieldsIf P ops (fun _ => True) oi v a → (i ∉ ks → ∀ j w', (j ∉ ks → S w') → S w') → (i ∉ ks → S w) → AnyK P md ops Q S ks n (l.setIfInBounds i true) (a.put oi.dst v) w → AnyK P md ops Q S ks (n + 1) l a w := by
  intro n
  induction n with
  | zero =>
    intro l a w _ hr hy _ hS H
    refine ⟨fun h => (by rw [h] at hr; cases hr), fun j hj => ?_⟩
    by_cases hji : j = i
    · subst hji; exact hy.wpOp hi trivial ⟨hS, H⟩
    · have := ready_mono hj hji
      rw [H.1] at this
      cases this
  | succ n ih =>
    intro l a w hfree hr hy hT hS H
    refine ⟨fun h => (by rw [h] at hr; cases hr), fun j hj => ?_⟩
    by_cases hji : j = i
    · subst hji; exact hy.wpOp hi trivial ⟨hS, H⟩
    · have h0 := (mem_ready.1 hr).1
      have h1 := H.2 j (ready_mono hj hji)
      obtain ⟨hun, oj, hoj, hall⟩ := mem_ready.1 hj
      have hnot : ∀ e ∈ oj.after, Region.binds md e = true → e.on ≠ i := fun e he hb heq => by
        have h1 := hall e he hb
        rw [heq] at h1
        rcases Nat.lt_or_ge i l.size with h' | h'
        · simp [h'] at h0 h1; rw [h0] at h1; cases h1
        · simp [Array.getElem?_eq_none h'] at h1
      have h2 := wpOp_putIf hoj (hfree j oj hoj hji hun hnot) (fun cs b => hsel i oi cs b hi) (fun cs b => hsel j oj cs b hoj) hQ hy h1
      have hfree' : ∀ m om, ops[m]? = some om → m ≠ i → (l.setIfInBounds j true).getD m true = false → (∀ e ∈ om.after, Region.binds md e = true → e.on ≠ i) → oi.apart ops om = true := fun m om hm hmi hu hno => by
        refine hfree m om hm hmi ?_ hno
        by_cases hjm : j = m
        · subst hjm; exact hun
        · rw [getD_set_ne true hjm] at hu; exact hu
      refine wpOp_mono (fun a' w' h3 => ⟨h3.2.1, ih (l.setIfInBounds j true) a' w' hfree' (ready_mono hr (Ne.symm hji)) h3.1 hT (fun hik => hT hik j w' h3.2.1) ?_⟩) h2
      rw [Array.setIfInBounds_comm _ _ hji]
      exact h3.2.2
theorem AnyK.takeW {i : Nat} {oi : Oper} {v : Value} {n : Nat} {l : Array Bool} {a : Act} {w : World} (hi : ops[i]? = some oi) (hs : Region.noSelect ops = true) (hf : Region.free md ops l i = true) (hr : (Region.ready md ops l).contains i = true) (hk : i ∈ ks)
    (hQ : ∀ c a w, Q (.panic c) (a.put oi.dst v) w → Q (.panic c) a w) (hy : YieldsIf P ops (fun _ => True) oi v a) (h : AnyK P md ops Q S ks n (l.setIfInBounds i true) (a.put oi.dst v) w) : AnyK P md ops Q S ks (n + 1) l a w :=
  AnyK.firstW hi (Region.noSelect_spec hs) hQ n l a w (Region.free_spec hi hf) (by simpa using hr) hy (fun x => absurd hk x) (fun x => absurd hk x) h
end
end Go.Proofs.Ytblijgdmfohfcaa
