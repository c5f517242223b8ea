/- The record laws' Same, of two records that are the same: true. No condition but that both can be read, and are alike. -/
import Derived.Test.YtdikkndphimjaaaRecF
namespace Go.Proofs.Ytdikkndphimjaaa
open Go Go.RowKit
set_option maxRecDepth 100000
set_option linter.unusedVariables false
set_option linter.unusedSimpArgs false
/-- A slice that is not empty, its address written out. -/
theorem Rd.form {w : World} {a : Option Addr} {n c : Nat} {xs : List Int} (h : Rd w (.slice a n c) xs) (hn : 0 < xs.length) : ∃ b off, a = some ⟨b, off, none⟩ := by
  rcases h with ⟨_, rfl⟩ | ⟨a', c', h1, h2, h3, h4⟩
  · simp at hn
  · have h0 := h4 0 hn
    obtain ⟨b, off, spot⟩ := a'
    simp only [Value.slice.injEq] at h1
    obtain ⟨rfl, _⟩ := h1
    cases spot with
    | none => exact ⟨b, off, rfl⟩
    | some s =>
      simp [Addr.add, World.cell?] at h0
      split at h0 <;> simp_all
theorem Rd.at {w : World} {b off n c : Nat} {xs : List Int} (h : Rd w (.slice (some ⟨b, off, none⟩) n c) xs) (j : Nat) (hj : j < xs.length) : w.cell? ⟨b, off + j, none⟩ = some (.int .i64 (xs.getD j 0)) := by
  rcases h with ⟨_, rfl⟩ | ⟨a', c', h1, h2, h3, h4⟩
  · simp at hj
  · simp only [Value.slice.injEq, Option.some.injEq] at h1
    obtain ⟨rfl, _⟩ := h1
    have := h4 j hj
    unfold Addr.add at this
    split at this
    · subst_vars; simpa using this
    · exact this
set_option maxHeartbeats 1600000 in
set_option maxRecDepth 100000 in
theorem Same_true (vn vi vn' vi' : Value) (nodes infos : List Int) (keep way old new : Int) (w : World) (h1 : Rd w vn nodes) (h2 : Rd w vi infos) (h3 : Rd w vn' nodes) (h4 : Rd w vi' infos) :
    Calls Try.prog 15 #[.agg #[vn, vi, .int .i64 keep, .int .i64 way, .int .i64 old, .int .i64 new], .agg #[vn', vi', .int .i64 keep, .int .i64 way, .int .i64 old, .int .i64 new]] w fun e w' =>
      e = .returned (.bool true) ∧ Fr nob w w' := by
  obtain ⟨an, cn, rfl⟩ := h1.len
  obtain ⟨ai, ci, rfl⟩ := h2.len
  obtain ⟨an', cn', rfl⟩ := h3.len
  obtain ⟨ai', ci', rfl⟩ := h4.len
  have s1 := h1.short
  have s2 := h2.short
  have K1 := Lib.hid h1
  have K2 := Lib.hid h2
  have K3 := Lib.hid h3
  have K4 := Lib.hid h4
  clear h1 h2 h3 h4
  go_enter Try.func15, Try.ntmps15
  go_wp2
  refine wp_seal (fun W => Fr nob w W ∧ Blk W w.heap.size 31 #[.slice an nodes.length cn, .slice ai infos.length ci, .int .i64 keep, .int .i64 way, .int .i64 old, .int .i64 new] ∧ Blk W (w.heap.size + 1) 31 #[.slice an' nodes.length cn', .slice ai' infos.length ci', .int .i64 keep, .int .i64 way, .int .i64 old, .int .i64 new])
    ⟨((Fr.refl _ _).alloc _).alloc _, (Blk.new _ _ _).alloc _, Blk.new' (by simp) _ _⟩ ?_
  rintro W1 ⟨F1, B0, B1⟩
  go_loopw [54] (fun i wr => ∃ k : Nat, k ≤ nodes.length ∧ i = .int .i64 k ∧ Fr nob W1 wr) (fun i _ => nodes.length - (intOf i).toNat)
  case atStart => exact ⟨0, Nat.zero_le _, rfl, Fr.refl _ _⟩
  case round =>
    obtain ⟨k, hk, rfl, F2⟩ := hrel
    have R1 := (K1.out.fr F1 (fun _ _ _ x => x)).fr F2 (fun _ _ _ x => x)
    have R3 := (K3.out.fr F1 (fun _ _ _ x => x)).fr F2 (fun _ _ _ x => x)
    have C0 := B0.fr F2 (fun x => x)
    have C1 := B1.fr F2 (fun x => x)
    have a0 : wr.cell? ⟨w.heap.size, 0, none⟩ = some (.slice an nodes.length cn) := C0.cell 0
    have a1 : wr.cell? ⟨w.heap.size + 1, 0, none⟩ = some (.slice an' nodes.length cn') := C1.cell 0
    by_cases hlt : k < nodes.length
    · obtain ⟨b, off, rfl⟩ := R1.form (by omega)
      obtain ⟨b', off', rfl⟩ := R3.form (by omega)
      have e1 := R1.at k hlt
      have e3 := R3.at k hlt
      have i0 : (0 : Int) ≤ (k : Int) := by omega
      have i1 : (k : Int) < (nodes.length : Int) := by omega
      clear R1 R3 C0 C1
      go_wp2
      go_quiet (fail)
      go_wp2
      exact ⟨⟨k + 1, by omega, by go_num, F2.drewN _⟩, by simp [intOf]; omega⟩
    · clear R1 R3 C0 C1 a0 a1
      obtain rfl : k = nodes.length := by omega
      have b0 : wr.cell? ⟨w.heap.size, 1, none⟩ = some (.slice ai infos.length ci) := (B0.fr F2 (fun x => x)).cell 1
      clear hk hlt
      go_wp2
      go_loopw [72] (fun i ws => ∃ k : Nat, k ≤ infos.length ∧ i = .int .i64 k ∧ Fr nob W1 ws) (fun i _ => infos.length - (intOf i).toNat)
      case atStart => exact ⟨0, Nat.zero_le _, rfl, F2⟩
      case round =>
        obtain ⟨k, hk, rfl, F3⟩ := hrel
        have R2 := (K2.out.fr F1 (fun _ _ _ x => x)).fr F3 (fun _ _ _ x => x)
        have R4 := (K4.out.fr F1 (fun _ _ _ x => x)).fr F3 (fun _ _ _ x => x)
        have C0 := B0.fr F3 (fun x => x)
        have C1 := B1.fr F3 (fun x => x)
        clear b0
        by_cases hlt : k < infos.length
        · obtain ⟨b, off, rfl⟩ := R2.form (by omega)
          obtain ⟨b', off', rfl⟩ := R4.form (by omega)
          have a0 := C0.cell 1
          have a1 := C1.cell 1
          simp at a0 a1
          have e1 := R2.at k hlt
          have e3 := R4.at k hlt
          have i0 : (0 : Int) ≤ (k : Int) := by omega
          have i1 : (k : Int) < (infos.length : Int) := by omega
          clear R2 R4 C0 C1
          go_wp2
          go_quiet (fail)
          go_wp2
          exact ⟨⟨k + 1, by omega, by go_num, F3.drewN _⟩, by simp [intOf]; omega⟩
        · clear R2 R4 C0 C1
          go_wp2
          go_ret
          exact ⟨rfl, F1.trans F3 (fun _ _ x => x)⟩
end Go.Proofs.Ytdikkndphimjaaa
