/- HelpRivals: the threads at their beginning and at their end; the bits of two sets. No condition. -/
import Derived.Test.YthkohomogknddaaHrl
namespace Go.Proofs.Ythkohomogknddaa
open Go Go.RowKit
set_option linter.unusedVariables false
set_option linter.unusedSimpArgs false
set_option maxRecDepth 100000
theorem Heap.freshRow {w0 w : World} {l : List Piece} (h : Heap w0 w l) (t : TypeId) (n : Nat) (us : List Value) (hl : us.length = n) (hm : n ≤ maxLen) : Heap w0 (w.alloc (.cells us.toArray t)) (l ++ [rowP t 1 (.slice (some ⟨w.heap.size, 0, none⟩) n n) n us]) := by
  refine h.pushRow (Fr.alloc (Fr.refl _ _) _) ⟨by simp [hl], _, n, rfl, Nat.le_refl _, hm, .inr ⟨_, 0, _, rfl, Blk.new _ _ _, by simp [hl], fun j u hu => by simpa using hu⟩⟩ (fun g hg => ?_)
  simp [Value.ownBlock] at hg
  subst hg
  exact ⟨Nat.le_refl _, by simp, _, Blk.new _ _ _⟩
theorem bitB_test : ∀ (n : _root_.Fin 32) (j : _root_.Fin 5), bitB (n.val : Int) j.val = Nat.testBit n.val j.val := by decide +kernel
theorem bitB_mod {a : Int} (h0 : 0 ≤ a) {j : Nat} (hj : j < 5) : bitB (a % 32) j = Nat.testBit a.toNat j := by
  have h := bitB_test ⟨a.toNat % 32, Nat.mod_lt _ (by decide)⟩ ⟨j, hj⟩
  dsimp only at h
  rw [show (((a.toNat % 32 : Nat) : Int)) = a % 32 by omega] at h
  rw [h]
  have := Nat.testBit_mod_two_pow a.toNat 5 j
  rw [show (2 : Nat) ^ 5 = 32 from rfl] at this
  rw [this, decide_eq_true hj, Bool.true_and]
theorem psU_mem {s : Int} {k p : Nat} : p ∈ psU s k ↔ p < k ∧ bitB s p = true := by simp [psU]
theorem psU_ne {a : Int} (h0 : 0 ≤ a) (h1 : a % 32 ≠ 0) : psU (a % 32) 5 ≠ [] := by
  intro h
  have key : ∀ p, p < 5 → Nat.testBit a.toNat p = false := fun p hp => by
    cases hb : Nat.testBit a.toNat p with
    | false => rfl
    | true =>
      have : p ∈ psU (a % 32) 5 := psU_mem.2 ⟨hp, by rw [bitB_mod h0 hp]; exact hb⟩
      rw [h] at this; simp at this
  have e : a.toNat % 2 ^ 5 = 0 := by
    apply Nat.eq_of_testBit_eq
    intro i
    rw [Nat.testBit_mod_two_pow, Nat.zero_testBit]
    by_cases hi : i < 5
    · rw [key i hi]; simp
    · simp [hi]
  apply h1
  rw [show (2 : Nat) ^ 5 = 32 from rfl] at e
  omega
theorem bits_u8 (a b : Nat) (ha : a < 256) (hb : b < 256) : bits BinOp.and IntKind.u8 (a : Int) (b : Int) = ((a &&& b : Nat) : Int) := by
  have hl : a &&& b < 256 := Nat.lt_of_le_of_lt Nat.and_le_left ha
  have e1 : (BitVec.ofInt 8 (a : Int)).toNat = a := by simp [BitVec.toNat_ofInt]; omega
  have e2 : (BitVec.ofInt 8 (b : Int)).toNat = b := by simp [BitVec.toNat_ofInt]; omega
  show IntKind.u8.wrap (((BitVec.ofInt 8 (a : Int) &&& BitVec.ofInt 8 (b : Int)).toNat : Nat) : Int) = _
  rw [BitVec.toNat_and, e1, e2]
  show (((a &&& b : Nat) : Int)) % 256 = _
  omega
theorem bits_common {a b : Int} (ha : 0 ≤ a ∧ a ≤ 255) (hb : 0 ≤ b ∧ b ≤ 255) : (bits BinOp.and IntKind.u8 a b % 32 = 0 ∧ ∀ p, p ∈ psU (a % 32) 5 → p ∉ psU (b % 32) 5) ∨ (bits BinOp.and IntKind.u8 a b % 32 ≠ 0 ∧ ∃ p, p ∈ psU (a % 32) 5 ∧ p ∈ psU (b % 32) 5) := by
  have e : bits BinOp.and IntKind.u8 a b = ((a.toNat &&& b.toNat : Nat) : Int) := by
    have := bits_u8 a.toNat b.toNat (by omega) (by omega)
    rwa [show ((a.toNat : Nat) : Int) = a by omega, show ((b.toNat : Nat) : Int) = b by omega] at this
  have hm : ∀ p, (p ∈ psU (a % 32) 5 ∧ p ∈ psU (b % 32) 5) ↔ p < 5 ∧ Nat.testBit (a.toNat &&& b.toNat) p = true := fun p => by
    rw [psU_mem, psU_mem, Nat.testBit_and]
    constructor
    · rintro ⟨⟨h1, h2⟩, _, h3⟩
      rw [bitB_mod ha.1 h1] at h2
      rw [bitB_mod hb.1 h1] at h3
      exact ⟨h1, by rw [h2, h3]; rfl⟩
    · rintro ⟨h1, h2⟩
      rw [Bool.and_eq_true] at h2
      rw [bitB_mod ha.1 h1, bitB_mod hb.1 h1]
      exact ⟨⟨h1, h2.1⟩, h1, h2.2⟩
  by_cases hc : ∃ p, p ∈ psU (a % 32) 5 ∧ p ∈ psU (b % 32) 5
  · refine .inr ⟨fun h0 => ?_, hc⟩
    obtain ⟨p, hp⟩ := hc
    obtain ⟨h1, h2⟩ := (hm p).1 hp
    rw [e] at h0
    have h3 : (a.toNat &&& b.toNat) % 2 ^ 5 = 0 := by rw [show (2 : Nat) ^ 5 = 32 from rfl]; omega
    have h4 := Nat.testBit_mod_two_pow (a.toNat &&& b.toNat) 5 p
    rw [h3, h2, Nat.zero_testBit, decide_eq_true h1] at h4
    exact absurd h4 (by decide)
  · refine .inl ⟨?_, fun p h1 h2 => hc ⟨p, h1, h2⟩⟩
    rw [e]
    have h3 : (a.toNat &&& b.toNat) % 2 ^ 5 = 0 := by
      apply Nat.eq_of_testBit_eq
      intro i
      rw [Nat.testBit_mod_two_pow, Nat.zero_testBit]
      by_cases hi : i < 5
      · cases hb : Nat.testBit (a.toNat &&& b.toNat) i with
        | false => simp
        | true => exact absurd ⟨i, (hm i).2 ⟨hi, hb⟩⟩ hc
      · simp [hi]
    rw [show (2 : Nat) ^ 5 = 32 from rfl] at h3
    omega
theorem bits_tmod {a b : Int} (ha : 0 ≤ a ∧ a ≤ 255) (hb : 0 ≤ b ∧ b ≤ 255) : (bits BinOp.and IntKind.u8 a b).tmod 32 = bits BinOp.and IntKind.u8 a b % 32 := by
  have e : bits BinOp.and IntKind.u8 a b = ((a.toNat &&& b.toNat : Nat) : Int) := by
    have := bits_u8 a.toNat b.toNat (by omega) (by omega)
    rwa [show ((a.toNat : Nat) : Int) = a by omega, show ((b.toNat : Nat) : Int) = b by omega] at this
  exact Int.tmod_eq_emod_of_nonneg (by rw [e]; exact Int.natCast_nonneg _)
theorem rvSet_ok {a nw : Int} (h0 : 0 ≤ a) (h1 : a % 32 ≠ 0) (hn : nw = 98 ∨ nw = 99) : RvOk (rvSet (a % 32) nw) where
  l1 := by
    show 1 ≤ (psU (a % 32) 5).length
    have := psU_ne h0 h1
    cases h : psU (a % 32) 5 with
    | nil => exact absurd h this
    | cons x l => simp
  l5 := psU_len _ 5
  lt := fun p hp => (psU_mem.1 hp).1
  up := List.Pairwise.filter _ List.pairwise_lt_range
  nw := fun p hp => by show nw ≠ _; omega
/-- The first. -/
theorem rv_hd {R : Rv} (h : RvOk R) : (intC (R.ps.map told))[0]? = some (.int .i64 (told R.hd)) ∧ R.hd < 5 := by
  have h1 := h.hd_mem
  refine ⟨?_, h.lt _ h1.1⟩
  simp only [intC, List.getElem?_map, h1.2]; rfl
theorem told_beq {i j : Nat} (hi : i < 5) (hj : j < 5) : (told i == told j) = decide (i = j) := by
  have key : ∀ (a b : _root_.Fin 5), (told a.val == told b.val) = decide (a.val = b.val) := by decide +kernel
  exact key ⟨i, hi⟩ ⟨j, hj⟩
def who2 (i : Nat) : Bool := decide (i % 2 = 0)
def rvWs : Nat → List (Nat × Nat) → List Wkr
  | _, [] => []
  | k, q :: l => mkW q.1 q.2 (k : Int) (rvN (who2 k)) :: rvWs (k + 1) l
def rvTs (l : List (Nat × Nat)) : List Th := l.map fun q => newTh (stV q.2)
theorem rvWs_get : ∀ (l : List (Nat × Nat)) (k i : Nat) (x : Wkr), (rvWs k l)[i]? = some x → ∃ q, l[i]? = some q ∧ x = mkW q.1 q.2 ((k + i : Nat) : Int) (rvN (who2 (k + i)))
  | [], k, i, x, h => by simp [rvWs] at h
  | q :: l, k, 0, x, h => ⟨q, rfl, by simpa [rvWs] using h.symm⟩
  | q :: l, k, i + 1, x, h => by
    obtain ⟨r, h1, h2⟩ := rvWs_get l (k + 1) i x h
    exact ⟨r, h1, by rw [h2, show k + 1 + i = k + (i + 1) by omega]⟩
theorem rvWs_len : ∀ (l : List (Nat × Nat)) (k : Nat), (rvWs k l).length = l.length
  | [], _ => rfl
  | _ :: l, k => by simp [rvWs, rvWs_len l]
def ep4 : Ep := ⟨0, List.replicate 4 (-1), List.replicate 4 []⟩
def rvX : H2 := ⟨fresh 5, 1, false, 1, false⟩
theorem rvX_get {p : Nat} {y : Nk} (h : rvX.L[p]? = some y) : y = ⟨0, false, 200 + 10 * (p : Int), 201 + 10 * (p : Int)⟩ := by
  have hp := (List.getElem?_eq_some_iff.1 h).1
  have h5 : rvX.L.length = 5 := fresh_len 5
  have := fresh_get (k := 5) (i := p) (by omega)
  have h : (fresh 5)[p]? = some y := h
  rw [this] at h
  injection h with h
  exact h.symm
theorem rvX_inv (A B : Rv) : RvInv A B rvX where
  len := fresh_len 5
  rng := fun p y h => .inl (by rw [rvX_get h])
  pre := fun w i j p q y z _ _ _ _ hz he => by
    rw [rvX_get hz] at he
    exact absurd he.symm (rvN_ne w)
  way := fun p y h => .inl (by rw [rvX_get h])
  al := fun w h => by cases w <;> exact absurd h (by decide)
  st := fun w => .inl (by cases w <;> rfl)
theorem rv_start {R : Rv} {w : Bool} : (helperP (rvN w)).rest (evR (rvN w) R.rc) [] = (wrapR R (rvN w) (infosP (rvN w) ((zipR R).drop 0))).rest (evR (rvN w) R.rc) [] := by
  have key : ∀ n : Int, (evR n R.rc).rcd n = some R.rc → (helperP n).rest (evR n R.rc) [] = ((recP n R.rc).bind fun b => (.ret [bit b] : Wk (List Int))).rest (evR n R.rc) [] → (helperP n).rest (evR n R.rc) [] = (wrapR R n (infosP n ((zipR R).drop 0))).rest (evR n R.rc) [] := fun n _ h => by
    rw [h]
    unfold recP
    rw [if_pos ⟨by show (0 : Int) ≤ 1; decide, by show (R.ps.map told).length ≤ (List.replicate R.ps.length (0 : Int)).length; rw [List.length_map, List.length_replicate]; exact Nat.le_refl _⟩]
    rfl
  cases w with
  | true => exact key 1 (by simp [evR]) rfl
  | false => exact key 2 (by simp [evR]) rfl
theorem rv_ok4 {A B : Rv} (hA : RvOk A) (hB : RvOk B) : WdOk 10 (h2W A B ep4 rvX) :=
  ndW_ok (t := 4) (k := 5) (es := [rvE A 1 false, rvE B 1 false]) (Nat.le_refl _) (by omega) (fun e he => by
    have h1 := hA.l5
    have h2 := hB.l5
    simp only [List.mem_cons, List.not_mem_nil, or_false] at he
    rcases he with rfl | rfl
    · simp [rvE]; omega
    · simp [rvE]; omega)
section
variable {A B : Rv} {c : Wc} {w0 w : World} {Z X : List Piece} {l : List (Nat × Nat)}
theorem rv_squad (hA : RvOk A) (hB : RvOk B) (h : Heap w0 w (wdL c (h2W A B ep4 rvX) ++ (Z ++ allG c (rvWs 0 l) (rvTs l)) ++ X)) : Squad (rvG A B ep4 who2) c w0 (rvWs 0 l) Z w 10 (h2W A B ep4 rvX) (rvTs l) X := by
  refine ⟨h, by rw [rvWs_len, rvTs, List.length_map], ⟨rvX, rfl, rvX_inv A B⟩, rv_ok4 hA hB, fun i y T hy hT => ?_⟩
  obtain ⟨q, hq, rfl⟩ := rvWs_get l 0 i y hy
  have e : T = newTh (stV q.2) := by
    simp [rvTs, hq] at hT
    exact hT.symm
  subst e
  refine ⟨rfl, rfl, fun _ => ⟨?_, by simp [newTh]⟩, fun h => by simp [newTh] at h⟩
  have hR : RvOk (rvR A B (who2 i)) := by cases who2 i <;> assumption
  obtain ⟨p, f, kk, ok, hp, hr, hpos, _⟩ := rv_after (x := rvX) hR (n := rvN (who2 i)) (i := 0) (Nat.zero_le _) (fun j p y hj => by omega)
  exact ⟨rvX, p, rfl, ok, rv_start.trans (hr.trans hp.symm), by simp [newTh]⟩
theorem rv_plays2 (hA : RvOk A) (hB : RvOk B) : (rvG A B ep4 who2).plays (rvWs 0 l) := rv_plays hA hB _ (fun i x hx => by
  obtain ⟨q, _, rfl⟩ := rvWs_get l 0 i x hx
  rw [Nat.zero_add]; rfl)
theorem rv_does {g : Game} (i : Nat) (x : Wkr) (hx : (rvWs 0 l)[i]? = some x) : x.does c g w0 := by
  obtain ⟨q, _, rfl⟩ := rvWs_get l 0 i x hx
  exact mkW_does _ _ _ _
/-- All are at their end. -/
theorem rv_fin {N : Nat} {s : Wd} {Ts : List Th} (hA : RvOk A) (hB : RvOk B) (h : Squad (rvG A B ep4 who2) c w0 (rvWs 0 l) Z w N s Ts X) (hd : ∀ (i : Nat) (T : Th), Ts[i]? = some T → T.done = true) (hl : 2 ≤ l.length) :
    ∃ x, s = h2W A B ep4 x ∧ RvInv A B x ∧ (x.s1 = 2 ∨ x.s1 = 0) ∧ (x.s2 = 2 ∨ x.s2 = 0) := by
  obtain ⟨x, rfl, hv⟩ := h.inv
  have key : ∀ i, i < 2 → x.st (who2 i) = 2 ∨ x.st (who2 i) = 0 := fun i hi => by
    obtain ⟨y, hy⟩ : ∃ y, (rvWs 0 l)[i]? = some y := ⟨_, List.getElem?_eq_getElem (by rw [rvWs_len]; omega)⟩
    obtain ⟨T, hT⟩ := h.get hy
    obtain ⟨v, _, _, _, _, ⟨x', e, hf⟩, _⟩ := (h.ths i y T hy hT).over (hd i T hT)
    have e := h2W_inj e
    subst e
    rcases hf with ⟨_, h⟩ | ⟨_, h⟩
    · exact .inl h
    · exact .inr h
  exact ⟨x, rfl, hv, key 0 (by omega), key 1 (by omega)⟩
theorem rv_yes {N : Nat} {x : H2} {Ts : List Th} (h : Squad (rvG A B ep4 who2) c w0 (rvWs 0 l) Z w N (h2W A B ep4 x) Ts X) (hd : ∀ (i : Nat) (T : Th), Ts[i]? = some T → T.done = true) {i : Nat} {q : Nat × Nat} (hq : l[i]? = some q) (b : Bool) (hb : decide (x.st (who2 i) = 2) = b) :
    Calls Try.prog 57 #[.pointer (some ⟨q.2 + 3, 0, none⟩)] w fun e w' => e = .returned (.bool b) ∧ ∃ Y, Squad (rvG A B ep4 who2) c w0 (rvWs 0 l) Z w' N (h2W A B ep4 x) Ts (X ++ Y) := by
  have hil := (List.getElem?_eq_some_iff.1 hq).1
  obtain ⟨y, hy⟩ : ∃ y, (rvWs 0 l)[i]? = some y := ⟨_, List.getElem?_eq_getElem (by rw [rvWs_len]; exact hil)⟩
  obtain ⟨q', hq', hyy⟩ := rvWs_get l 0 i y hy
  rw [hq] at hq'
  injection hq' with hq'
  subst hq'
  obtain ⟨T, hT⟩ := h.get hy
  obtain ⟨kt, hkt⟩ := h.th hy hT
  obtain ⟨v7, a7, cp7, ho7, _, ⟨x7, e7, hF7⟩, j7, hj7⟩ := (h.ths i y T hy hT).over (hd i T hT)
  have e7 := h2W_inj e7
  subst e7
  have hv7 : v7 = [bit b] := by
    rw [← hb]
    rcases hF7 with ⟨h1, h2⟩ | ⟨h1, h2⟩
    · rw [h1, decide_eq_true h2]; rfl
    · rw [h1, decide_eq_false (by omega)]; rfl
  subst hv7
  have hbe : y.b = q.2 := by rw [hyy]; rfl
  rw [hbe] at hkt
  refine (yes_h h.heap kt ((wdL c (h2W A B ep4 x) ++ (Z ++ allG c (rvWs 0 l) Ts)).length + j7) hkt b (a := a7) (cp := cp7) (by
    rw [List.getElem?_append_right (by omega), Nat.add_sub_cancel_left]; exact hj7) (hd i T hT) ho7).mono ?_
  rintro e w' ⟨rfl, a2, cp2, H⟩
  exact ⟨rfl, _, h.more (by rw [List.append_assoc] at H; exact H) (Nat.le_refl _)⟩
end
end Go.Proofs.Ythkohomogknddaa
