/-
  No cell of these rows narrows 'for every input' (looked for: loops, veiled, ifaces, maps, wideKeys, modest, calm, conditions, laid).
  DERIVED. THE GIVEN ROWS OF THIS SEAT. 6 by the template 'for every input the law returns true; each argument reads behind the call as it read before'; 0 by the template 'total and deterministic' (their statements: YtdikkndphimjaaaTotals.lean).
  GIVEN WITH THE SEED: the statements are not yours to turn. If you find one false, say at which input.
  Laid BY PROGRAM, IN A SANDBOX (cutbox-rows.mjs): the forced cells as the released guide's own fill.sh prints them over the translation 479dd2214169baef… (all of the seat's roots in one cut). By AI agents, Wed Nov 11 2026. No macro, syntax, notation, axiom, sorry.
-/
import Derived.Test.YtdikkndphimjaaaChecked
import GoSem.Claim
import GoSem.ClaimJoined
import GoSem.ClaimMapViews
import Derived.JoinedTies
import Derived.KernelRfl
namespace Go.Proofs.Ytdikkndphimjaaa
/- THE CELL 'sum', in the pinned program and in every row, IS THE sha256 OF THE DUMP (.gsa) THAT YtdikkndphimjaaaProg.lean LOADS. Nothing in Lean hashes anything: it is a label: what it is worth is what the hold of that sum in a sandbox is worth. -/
noncomputable def Try.pinned : Pinned := { name := "ytdikkndphimjaaa", sum := "479dd2214169baef301b05ed35376c49fff9fff9bb1d04a65f114f5eab742318", checked := Try.checked }
namespace Rows
def none {H : Type} : Left H := { results := [], args := [] }

/-- 'boscagelaw05.RecordFull': WHATEVER THE INPUT: true; the input reads as it did. -/
def recordFullSpec : ChangeSpec := { name := "recordFull", fn := fun _ => fun
  | [d1, d2] => { results := [.lit (.bool true)], args := [d1, d2] }
  | _ => none }
def recordFullRow : OpenClaim := { program := "ytdikkndphimjaaa", sum := "479dd2214169baef301b05ed35376c49fff9fff9bb1d04a65f114f5eab742318", func := "boscage/boscagelaw05.RecordFull", spec := "recordFull", apart := false }
def RecordFullSaid : Prop := recordFullRow.holds Try.pinned (OpenSpec.ofChange recordFullSpec)

/-- ITS FALSE NEIGHBOUR: 'it returns false'. Refute it at one input. -/
def recordFullWrong : ChangeSpec := { name := "recordFull", fn := fun _ => fun
  | [d1, d2] => { results := [.lit (.bool false)], args := [d1, d2] }
  | _ => none }
def RecordFullWrongFalsely : Prop := recordFullRow.holds Try.pinned (OpenSpec.ofChange recordFullWrong)

/-- 'boscagelaw05.RecordKeeps': WHATEVER THE INPUT: true; the input reads as it did. -/
def recordKeepsSpec : ChangeSpec := { name := "recordKeeps", fn := fun _ => fun
  | [d] => { results := [.lit (.bool true)], args := [d] }
  | _ => none }
def recordKeepsRow : OpenClaim := { program := "ytdikkndphimjaaa", sum := "479dd2214169baef301b05ed35376c49fff9fff9bb1d04a65f114f5eab742318", func := "boscage/boscagelaw05.RecordKeeps", spec := "recordKeeps", apart := false }
def RecordKeepsSaid : Prop := recordKeepsRow.holds Try.pinned (OpenSpec.ofChange recordKeepsSpec)

/-- ITS FALSE NEIGHBOUR: 'it returns false'. Refute it at one input. -/
def recordKeepsWrong : ChangeSpec := { name := "recordKeeps", fn := fun _ => fun
  | [d] => { results := [.lit (.bool false)], args := [d] }
  | _ => none }
def RecordKeepsWrongFalsely : Prop := recordKeepsRow.holds Try.pinned (OpenSpec.ofChange recordKeepsWrong)

/-- 'boscagelaw05.RecordMakes': WHATEVER THE INPUT: true; the input reads as it did. -/
def recordMakesSpec : ChangeSpec := { name := "recordMakes", fn := fun _ => fun
  | [d] => { results := [.lit (.bool true)], args := [d] }
  | _ => none }
def recordMakesRow : OpenClaim := { program := "ytdikkndphimjaaa", sum := "479dd2214169baef301b05ed35376c49fff9fff9bb1d04a65f114f5eab742318", func := "boscage/boscagelaw05.RecordMakes", spec := "recordMakes", apart := false }
def RecordMakesSaid : Prop := recordMakesRow.holds Try.pinned (OpenSpec.ofChange recordMakesSpec)

/-- ITS FALSE NEIGHBOUR: 'it returns false'. Refute it at one input. -/
def recordMakesWrong : ChangeSpec := { name := "recordMakes", fn := fun _ => fun
  | [d] => { results := [.lit (.bool false)], args := [d] }
  | _ => none }
def RecordMakesWrongFalsely : Prop := recordMakesRow.holds Try.pinned (OpenSpec.ofChange recordMakesWrong)

/-- 'boscagelaw05.RecordRuns': WHATEVER THE INPUT: true; the input reads as it did. -/
def recordRunsSpec : ChangeSpec := { name := "recordRuns", fn := fun _ => fun
  | [d1, d2] => { results := [.lit (.bool true)], args := [d1, d2] }
  | _ => none }
def recordRunsRow : OpenClaim := { program := "ytdikkndphimjaaa", sum := "479dd2214169baef301b05ed35376c49fff9fff9bb1d04a65f114f5eab742318", func := "boscage/boscagelaw05.RecordRuns", spec := "recordRuns", apart := false }
def RecordRunsSaid : Prop := recordRunsRow.holds Try.pinned (OpenSpec.ofChange recordRunsSpec)

/-- ITS FALSE NEIGHBOUR: 'it returns false'. Refute it at one input. -/
def recordRunsWrong : ChangeSpec := { name := "recordRuns", fn := fun _ => fun
  | [d1, d2] => { results := [.lit (.bool false)], args := [d1, d2] }
  | _ => none }
def RecordRunsWrongFalsely : Prop := recordRunsRow.holds Try.pinned (OpenSpec.ofChange recordRunsWrong)

/-- 'boscagelaw05.RecordOthers': WHATEVER THE INPUT: true; the input reads as it did. -/
def recordOthersSpec : ChangeSpec := { name := "recordOthers", fn := fun _ => fun
  | [d1, d2] => { results := [.lit (.bool true)], args := [d1, d2] }
  | _ => none }
def recordOthersRow : OpenClaim := { program := "ytdikkndphimjaaa", sum := "479dd2214169baef301b05ed35376c49fff9fff9bb1d04a65f114f5eab742318", func := "boscage/boscagelaw05.RecordOthers", spec := "recordOthers", apart := false }
def RecordOthersSaid : Prop := recordOthersRow.holds Try.pinned (OpenSpec.ofChange recordOthersSpec)

/-- ITS FALSE NEIGHBOUR: 'it returns false'. Refute it at one input. -/
def recordOthersWrong : ChangeSpec := { name := "recordOthers", fn := fun _ => fun
  | [d1, d2] => { results := [.lit (.bool false)], args := [d1, d2] }
  | _ => none }
def RecordOthersWrongFalsely : Prop := recordOthersRow.holds Try.pinned (OpenSpec.ofChange recordOthersWrong)

/-- 'boscagelaw05.RecordNil': WHATEVER THE INPUT: true; the input reads as it did. -/
def recordNilSpec : ChangeSpec := { name := "recordNil", fn := fun _ => fun
  | [d1, d2] => { results := [.lit (.bool true)], args := [d1, d2] }
  | _ => none }
def recordNilRow : OpenClaim := { program := "ytdikkndphimjaaa", sum := "479dd2214169baef301b05ed35376c49fff9fff9bb1d04a65f114f5eab742318", func := "boscage/boscagelaw05.RecordNil", spec := "recordNil", apart := false }
def RecordNilSaid : Prop := recordNilRow.holds Try.pinned (OpenSpec.ofChange recordNilSpec)

/-- ITS FALSE NEIGHBOUR: 'it returns false'. Refute it at one input. -/
def recordNilWrong : ChangeSpec := { name := "recordNil", fn := fun _ => fun
  | [d1, d2] => { results := [.lit (.bool false)], args := [d1, d2] }
  | _ => none }
def RecordNilWrongFalsely : Prop := recordNilRow.holds Try.pinned (OpenSpec.ofChange recordNilWrong)

/- THE SECOND FORM. 'bulk': how many values and letters a reading holds, each counted each time it is reached (what is shared counts as often as it is met; a slice's spare places count too). A statement '..UptoSaid' is the law's where the arguments, and the package variables that the reading takes, are together of bulk at most 1048576: NARROWER than '..Said'. Prove '..Said' where nothing that the law and all that it calls make is longer than what came in: it says more and counts as full. Else prove '..UptoSaid'. A law counts once. -/
mutual
def uptoBulk {H : Type} : DataW H → Nat
  | .lit (.string bytes) => bytes.length + 1
  | .lit _ => 1
  | .nil => 1
  | .ptr d => uptoBulk d + 1
  | .slice elems spare => uptoBulkAll elems + uptoBulkAll spare + 1
  | .agg parts => uptoBulkAll parts + 1
  | .iface _ d => uptoBulk d + 1
  | .map entries => uptoBulkEntries entries + 1
  | .held _ => 1
def uptoBulkAll {H : Type} : List (DataW H) → Nat
  | [] => 0
  | d :: r => uptoBulk d + uptoBulkAll r
def uptoBulkEntries {H : Type} : List (Lit × DataW H) → Nat
  | [] => 0
  | x :: r => uptoBulkEntry x + uptoBulkEntries r
def uptoBulkEntry {H : Type} : Lit × DataW H → Nat
  | (.string bytes, d) => bytes.length + uptoBulk d + 1
  | (_, d) => uptoBulk d + 1
 end
def uptoSmall : (H : Type) → List (DataW H) → Bool := fun _ ds => decide (uptoBulkAll ds ≤ 1048576)
def OpenSpec.upto (s : _root_.Go.ChangeSpec) : _root_.Go.OpenSpec := { _root_.Go.OpenSpec.ofChange s with cond := some uptoSmall }

/-- 'boscagelaw05.RecordFull', WHERE WHAT IT READS IS OF BULK AT MOST 1048576: true; the input reads as it did. -/
def recordFullUptoRow : OpenClaim := { program := "ytdikkndphimjaaa", sum := "479dd2214169baef301b05ed35376c49fff9fff9bb1d04a65f114f5eab742318", func := "boscage/boscagelaw05.RecordFull", spec := "recordFull", apart := false, narrowed := true }
def RecordFullUptoSaid : Prop := recordFullUptoRow.holds Try.pinned (OpenSpec.upto recordFullSpec)

/-- 'boscagelaw05.RecordKeeps', WHERE WHAT IT READS IS OF BULK AT MOST 1048576: true; the input reads as it did. -/
def recordKeepsUptoRow : OpenClaim := { program := "ytdikkndphimjaaa", sum := "479dd2214169baef301b05ed35376c49fff9fff9bb1d04a65f114f5eab742318", func := "boscage/boscagelaw05.RecordKeeps", spec := "recordKeeps", apart := false, narrowed := true }
def RecordKeepsUptoSaid : Prop := recordKeepsUptoRow.holds Try.pinned (OpenSpec.upto recordKeepsSpec)

/-- 'boscagelaw05.RecordMakes', WHERE WHAT IT READS IS OF BULK AT MOST 1048576: true; the input reads as it did. -/
def recordMakesUptoRow : OpenClaim := { program := "ytdikkndphimjaaa", sum := "479dd2214169baef301b05ed35376c49fff9fff9bb1d04a65f114f5eab742318", func := "boscage/boscagelaw05.RecordMakes", spec := "recordMakes", apart := false, narrowed := true }
def RecordMakesUptoSaid : Prop := recordMakesUptoRow.holds Try.pinned (OpenSpec.upto recordMakesSpec)

/-- 'boscagelaw05.RecordRuns', WHERE WHAT IT READS IS OF BULK AT MOST 1048576: true; the input reads as it did. -/
def recordRunsUptoRow : OpenClaim := { program := "ytdikkndphimjaaa", sum := "479dd2214169baef301b05ed35376c49fff9fff9bb1d04a65f114f5eab742318", func := "boscage/boscagelaw05.RecordRuns", spec := "recordRuns", apart := false, narrowed := true }
def RecordRunsUptoSaid : Prop := recordRunsUptoRow.holds Try.pinned (OpenSpec.upto recordRunsSpec)

/-- 'boscagelaw05.RecordOthers', WHERE WHAT IT READS IS OF BULK AT MOST 1048576: true; the input reads as it did. -/
def recordOthersUptoRow : OpenClaim := { program := "ytdikkndphimjaaa", sum := "479dd2214169baef301b05ed35376c49fff9fff9bb1d04a65f114f5eab742318", func := "boscage/boscagelaw05.RecordOthers", spec := "recordOthers", apart := false, narrowed := true }
def RecordOthersUptoSaid : Prop := recordOthersUptoRow.holds Try.pinned (OpenSpec.upto recordOthersSpec)

/-- 'boscagelaw05.RecordNil', WHERE WHAT IT READS IS OF BULK AT MOST 1048576: true; the input reads as it did. -/
def recordNilUptoRow : OpenClaim := { program := "ytdikkndphimjaaa", sum := "479dd2214169baef301b05ed35376c49fff9fff9bb1d04a65f114f5eab742318", func := "boscage/boscagelaw05.RecordNil", spec := "recordNil", apart := false, narrowed := true }
def RecordNilUptoSaid : Prop := recordNilUptoRow.holds Try.pinned (OpenSpec.upto recordNilSpec)

end Rows
end Go.Proofs.Ytdikkndphimjaaa
