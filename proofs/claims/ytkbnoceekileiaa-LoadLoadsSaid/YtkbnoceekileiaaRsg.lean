/- boscagelaw02.Rising: its contract. No condition but the bounds of size. -/
import Derived.Test.YtkbnoceekileiaaPut
namespace Go.Proofs.Ytkbnoceekileiaa
open Go Go.RowKit
set_option linter.unusedVariables false
set_option linter.unusedSimpArgs false
set_option maxRecDepth 100000
theorem putG_len : ∀ (l : List (Int × Int)) (k v : Int) (d : Bool), (putL.putG l k v d).length ≤ l.length + (if d = true then 0 else 1)
  | [], k, v, d => by cases d <;> simp [putL.putG]
  | p :: l, k, v, d => by
    rw [putG_cons]
    have h := putG_len l k v (d || decide (k ≤ p.1))
    cases d with
    | true =>
      simp only [Bool.true_or, if_true] at h
      simp only [List.length_append, List.length_cons]
      simp
      split <;> simp <;> omega
    | false =>
      by_cases hk : k ≤ p.1
      · simp [hk] at h ⊢
        split <;> simp <;> omega
      · simp [hk] at h ⊢
        split <;> simp <;> omega
theorem putL_len (l : List (Int × Int)) (k v : Int) : (putL l k v).length ≤ l.length + 1 := putG_len l k v false
theorem risingL_snoc : ∀ (l : List Int) (k : Int) (i : Nat) (out : List (Int × Int)), risingL (l ++ [k]) i out = putL (risingL l i out) k (((i + l.length : Nat) : Int) + 100)
  | [], k, i, out => rfl
  | a :: l, k, i, out => by
    show risingL (l ++ [k]) (i + 1) _ = _
    rw [risingL_snoc l k (i + 1)]
    show putL _ k _ = putL _ k _
    rw [show i + 1 + l.length = i + (a :: l).length by simp; omega]
    rfl
def risingA (l : List Int) : List (Int × Int) := risingL l 0 []
theorem risingA_next {l : List Int} {i : Nat} {k : Int} (h : l[i]? = some k) : risingA (l.take (i + 1)) = putL (risingA (l.take i)) k ((i : Int) + 100) := by
  unfold risingA
  rw [List.take_add_one, h]
  show risingL (l.take i ++ [k]) 0 [] = _
  rw [risingL_snoc, List.length_take, Nat.zero_add, Nat.min_eq_left (by have := (List.getElem?_eq_some_iff.1 h).1; omega)]
theorem risingA_len (l : List Int) : ∀ i, i ≤ l.length → (risingA (l.take i)).length ≤ i
  | 0, _ => by simp [risingA, risingL]
  | i + 1, h => by
    obtain ⟨k, hk⟩ : ∃ k, l[i]? = some k := ⟨_, List.getElem?_eq_getElem (by omega)⟩
    rw [risingA_next hk]
    have h1 := putL_len (risingA (l.take i)) k ((i : Int) + 100)
    have h2 := risingA_len l i (by omega)
    omega
theorem Rising_h {w0 w : World} {L : List Piece} (h : Heap w0 w L) (v : Value) (xs : List Int) (hR : ∀ z l, Heap w0 z l → RdV z v xs.length 1 (intC xs)) (hl : xs.length ≤ 1000000) :
    Calls Try.prog 26 #[v] w fun e w' => ∃ a c, e = .returned (.slice a (risingA xs).length c) ∧ Heap w0 w' (L ++ [rowP 77 2 (.slice a (risingA xs).length c) (risingA xs).length (pairC (risingA xs))]) := by
  obtain ⟨va, vc, rfl⟩ := (hR _ _ h).len
  have HR := Lib.hid hR
  have HH : Hid (Heap w0 w (L ++ [rowP 77 2 (.slice none (risingA (xs.take 0)).length 0) (risingA (xs.take 0)).length (pairC (risingA (xs.take 0)))])) := Lib.hid (h.rowNilG 77 2)
  clear h hR
  go_enter Try.func26, Try.ntmps26
  go_wp2_with fail
  go_loopw [3, 8] (fun s3 q wr => ∃ (i : Nat) (a : Option Addr) (c : Nat), q = .int .i64 (i : Nat) ∧ i ≤ xs.length ∧ s3 = .slice a (risingA (xs.take i)).length c ∧ Hid (Heap w0 wr (L ++ [rowP 77 2 (.slice a (risingA (xs.take i)).length c) (risingA (xs.take i)).length (pairC (risingA (xs.take i)))]))) (fun _ q _ => xs.length - (intOf q).toNat)
  case atStart => exact ⟨0, none, 0, rfl, Nat.zero_le _, rfl, HH⟩
  case round =>
  clear HH
  obtain ⟨i, a, c, rfl, hi, rfl, HH⟩ := hrel
  by_cases hlt : i < xs.length
  · obtain ⟨k, hk⟩ : ∃ k, xs[i]? = some k := ⟨_, List.getElem?_eq_getElem hlt⟩
    obtain ⟨a1, ea, _, hat⟩ := (HR.out _ _ HH.out).at (by omega)
    have ea : va = some a1 := by simpa using ea
    subst ea
    have y1 : World.cell? _ (a1.add i) = some (.int .i64 k) := hat i _ (by simp [intC, hk])
    have CP := Put_h HH.out L.length (v := .slice a (risingA (xs.take i)).length c) (ps := risingA (xs.take i)) (by simp) k ((i : Int) + 100) (by have := risingA_len xs i hi; omega)
    rw [← risingA_next hk] at CP
    have CP := Lib.hid CP
    obtain ⟨m, hm⟩ : ∃ m, (risingA (xs.take i)).length = m := ⟨_, rfl⟩
    rw [hm] at CP ⊢
    clear hat hk HH hm
    go_wp2_with fail
    refine CP.out.mono ?_
    rintro e w2 ⟨a2, c2, rfl, H2⟩
    have HX : Hid (Heap w0 w2 (L ++ [rowP 77 2 (.slice a2 (risingA (xs.take (i + 1))).length c2) (risingA (xs.take (i + 1))).length (pairC (risingA (xs.take (i + 1))))])) := Lib.hid (Heap.mid H2)
    clear CP H2 y1
    go_wp2_with fail
    exact ⟨⟨i + 1, a2, c2, by go_num, by omega, rfl, HX⟩, by simp [intOf]; omega⟩
  · obtain rfl : i = xs.length := by omega
    have HX := HH.out
    rw [List.take_length] at HX ⊢
    have HX := Lib.hid HX
    clear HH
    go_wp2_with fail
    go_ret
    exact ⟨a, c, rfl, HX.out⟩
end Go.Proofs.Ytkbnoceekileiaa
