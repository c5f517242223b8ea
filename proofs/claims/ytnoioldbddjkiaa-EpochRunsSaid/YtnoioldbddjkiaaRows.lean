/-
  No cell of these rows narrows 'for every input' (looked for: loops, veiled, ifaces, maps, wideKeys, modest, calm, conditions, laid).
  DERIVED. THE GIVEN ROWS OF THIS SEAT. 6 by the template 'for every input the law returns true; each argument reads behind the call as it read before'; 0 by the template 'total and deterministic' (their statements: YtnoioldbddjkiaaTotals.lean).
  GIVEN WITH THE SEED: the statements are not yours to turn. If you find one false, say at which input.
  Laid BY PROGRAM, IN A SANDBOX (cutbox-rows.mjs): the forced cells as the released guide's own fill.sh prints them over the translation c08ffc0952e876bc… (all of the seat's roots in one cut). By AI agents, Wed Nov 11 2026. No macro, syntax, notation, axiom, sorry.
-/
import Derived.Test.YtnoioldbddjkiaaChecked
import GoSem.Claim
import GoSem.ClaimJoined
import GoSem.ClaimMapViews
import Derived.JoinedTies
import Derived.KernelRfl
namespace Go.Proofs.Ytnoioldbddjkiaa
/- THE CELL 'sum', in the pinned program and in every row, IS THE sha256 OF THE DUMP (.gsa) THAT YtnoioldbddjkiaaProg.lean LOADS. Nothing in Lean hashes anything: it is a label: what it is worth is what the hold of that sum in a sandbox is worth. -/
noncomputable def Try.pinned : Pinned := { name := "ytnoioldbddjkiaa", sum := "c08ffc0952e876bca2664ff4640b247546f0980b0c3f6cd864a8049a30269023", checked := Try.checked }
namespace Rows
def none {H : Type} : Left H := { results := [], args := [] }

/-- 'boscagelaw07.EpochReady': WHATEVER THE INPUT: true; the input reads as it did. -/
def epochReadySpec : ChangeSpec := { name := "epochReady", fn := fun _ => fun
  | [d1, d2, d3] => { results := [.lit (.bool true)], args := [d1, d2, d3] }
  | _ => none }
def epochReadyRow : OpenClaim := { program := "ytnoioldbddjkiaa", sum := "c08ffc0952e876bca2664ff4640b247546f0980b0c3f6cd864a8049a30269023", func := "boscage/boscagelaw07.EpochReady", spec := "epochReady", apart := false }
def EpochReadySaid : Prop := epochReadyRow.holds Try.pinned (OpenSpec.ofChange epochReadySpec)

/-- ITS FALSE NEIGHBOUR: 'it returns false'. Refute it at one input. -/
def epochReadyWrong : ChangeSpec := { name := "epochReady", fn := fun _ => fun
  | [d1, d2, d3] => { results := [.lit (.bool false)], args := [d1, d2, d3] }
  | _ => none }
def EpochReadyWrongFalsely : Prop := epochReadyRow.holds Try.pinned (OpenSpec.ofChange epochReadyWrong)

/-- 'boscagelaw07.EpochOrder': WHATEVER THE INPUT: true; the input reads as it did. -/
def epochOrderSpec : ChangeSpec := { name := "epochOrder", fn := fun _ => fun
  | [d1, d2] => { results := [.lit (.bool true)], args := [d1, d2] }
  | _ => none }
def epochOrderRow : OpenClaim := { program := "ytnoioldbddjkiaa", sum := "c08ffc0952e876bca2664ff4640b247546f0980b0c3f6cd864a8049a30269023", func := "boscage/boscagelaw07.EpochOrder", spec := "epochOrder", apart := false }
def EpochOrderSaid : Prop := epochOrderRow.holds Try.pinned (OpenSpec.ofChange epochOrderSpec)

/-- ITS FALSE NEIGHBOUR: 'it returns false'. Refute it at one input. -/
def epochOrderWrong : ChangeSpec := { name := "epochOrder", fn := fun _ => fun
  | [d1, d2] => { results := [.lit (.bool false)], args := [d1, d2] }
  | _ => none }
def EpochOrderWrongFalsely : Prop := epochOrderRow.holds Try.pinned (OpenSpec.ofChange epochOrderWrong)

/-- 'boscagelaw07.EpochSwaps': WHATEVER THE INPUT: true; the input reads as it did. -/
def epochSwapsSpec : ChangeSpec := { name := "epochSwaps", fn := fun _ => fun
  | [d] => { results := [.lit (.bool true)], args := [d] }
  | _ => none }
def epochSwapsRow : OpenClaim := { program := "ytnoioldbddjkiaa", sum := "c08ffc0952e876bca2664ff4640b247546f0980b0c3f6cd864a8049a30269023", func := "boscage/boscagelaw07.EpochSwaps", spec := "epochSwaps", apart := false }
def EpochSwapsSaid : Prop := epochSwapsRow.holds Try.pinned (OpenSpec.ofChange epochSwapsSpec)

/-- ITS FALSE NEIGHBOUR: 'it returns false'. Refute it at one input. -/
def epochSwapsWrong : ChangeSpec := { name := "epochSwaps", fn := fun _ => fun
  | [d] => { results := [.lit (.bool false)], args := [d] }
  | _ => none }
def EpochSwapsWrongFalsely : Prop := epochSwapsRow.holds Try.pinned (OpenSpec.ofChange epochSwapsWrong)

/-- 'boscagelaw07.EpochThreads': WHATEVER THE INPUT: true; the input reads as it did. -/
def epochThreadsSpec : ChangeSpec := { name := "epochThreads", fn := fun _ => fun
  | [d1, d2, d3] => { results := [.lit (.bool true)], args := [d1, d2, d3] }
  | _ => none }
def epochThreadsRow : OpenClaim := { program := "ytnoioldbddjkiaa", sum := "c08ffc0952e876bca2664ff4640b247546f0980b0c3f6cd864a8049a30269023", func := "boscage/boscagelaw07.EpochThreads", spec := "epochThreads", apart := false }
def EpochThreadsSaid : Prop := epochThreadsRow.holds Try.pinned (OpenSpec.ofChange epochThreadsSpec)

/-- ITS FALSE NEIGHBOUR: 'it returns false'. Refute it at one input. -/
def epochThreadsWrong : ChangeSpec := { name := "epochThreads", fn := fun _ => fun
  | [d1, d2, d3] => { results := [.lit (.bool false)], args := [d1, d2, d3] }
  | _ => none }
def EpochThreadsWrongFalsely : Prop := epochThreadsRow.holds Try.pinned (OpenSpec.ofChange epochThreadsWrong)

/-- 'boscagelaw07.EpochRuns': WHATEVER THE INPUT: true; the input reads as it did. -/
def epochRunsSpec : ChangeSpec := { name := "epochRuns", fn := fun _ => fun
  | [d1, d2] => { results := [.lit (.bool true)], args := [d1, d2] }
  | _ => none }
def epochRunsRow : OpenClaim := { program := "ytnoioldbddjkiaa", sum := "c08ffc0952e876bca2664ff4640b247546f0980b0c3f6cd864a8049a30269023", func := "boscage/boscagelaw07.EpochRuns", spec := "epochRuns", apart := false }
def EpochRunsSaid : Prop := epochRunsRow.holds Try.pinned (OpenSpec.ofChange epochRunsSpec)

/-- ITS FALSE NEIGHBOUR: 'it returns false'. Refute it at one input. -/
def epochRunsWrong : ChangeSpec := { name := "epochRuns", fn := fun _ => fun
  | [d1, d2] => { results := [.lit (.bool false)], args := [d1, d2] }
  | _ => none }
def EpochRunsWrongFalsely : Prop := epochRunsRow.holds Try.pinned (OpenSpec.ofChange epochRunsWrong)

/-- 'boscagelaw07.EpochNil': WHATEVER THE INPUT: true; the input reads as it did. -/
def epochNilSpec : ChangeSpec := { name := "epochNil", fn := fun _ => fun
  | [d1, d2] => { results := [.lit (.bool true)], args := [d1, d2] }
  | _ => none }
def epochNilRow : OpenClaim := { program := "ytnoioldbddjkiaa", sum := "c08ffc0952e876bca2664ff4640b247546f0980b0c3f6cd864a8049a30269023", func := "boscage/boscagelaw07.EpochNil", spec := "epochNil", apart := false }
def EpochNilSaid : Prop := epochNilRow.holds Try.pinned (OpenSpec.ofChange epochNilSpec)

/-- ITS FALSE NEIGHBOUR: 'it returns false'. Refute it at one input. -/
def epochNilWrong : ChangeSpec := { name := "epochNil", fn := fun _ => fun
  | [d1, d2] => { results := [.lit (.bool false)], args := [d1, d2] }
  | _ => none }
def EpochNilWrongFalsely : Prop := epochNilRow.holds Try.pinned (OpenSpec.ofChange epochNilWrong)

/- THE SECOND FORM. 'bulk': how many values and letters a reading holds, each counted each time it is reached (what is shared counts as often as it is met; a slice's spare places count too). A statement '..UptoSaid' is the law's where the arguments, and the package variables that the reading takes, are together of bulk at most 1048576: NARROWER than '..Said'. Prove '..Said' where nothing that the law and all that it calls make is longer than what came in: it says more and counts as full. Else prove '..UptoSaid'. A law counts once. -/
mutual
def uptoBulk {H : Type} : DataW H → Nat
  | .lit (.string bytes) => bytes.length + 1
  | .lit _ => 1
  | .nil => 1
  | .ptr d => uptoBulk d + 1
  | .slice elems spare => uptoBulkAll elems + uptoBulkAll spare + 1
  | .agg parts => uptoBulkAll parts + 1
  | .iface _ d => uptoBulk d + 1
  | .map entries => uptoBulkEntries entries + 1
  | .held _ => 1
def uptoBulkAll {H : Type} : List (DataW H) → Nat
  | [] => 0
  | d :: r => uptoBulk d + uptoBulkAll r
def uptoBulkEntries {H : Type} : List (Lit × DataW H) → Nat
  | [] => 0
  | x :: r => uptoBulkEntry x + uptoBulkEntries r
def uptoBulkEntry {H : Type} : Lit × DataW H → Nat
  | (.string bytes, d) => bytes.length + uptoBulk d + 1
  | (_, d) => uptoBulk d + 1
 end
def uptoSmall : (H : Type) → List (DataW H) → Bool := fun _ ds => decide (uptoBulkAll ds ≤ 1048576)
def OpenSpec.upto (s : _root_.Go.ChangeSpec) : _root_.Go.OpenSpec := { _root_.Go.OpenSpec.ofChange s with cond := some uptoSmall }

/-- 'boscagelaw07.EpochReady', WHERE WHAT IT READS IS OF BULK AT MOST 1048576: true; the input reads as it did. -/
def epochReadyUptoRow : OpenClaim := { program := "ytnoioldbddjkiaa", sum := "c08ffc0952e876bca2664ff4640b247546f0980b0c3f6cd864a8049a30269023", func := "boscage/boscagelaw07.EpochReady", spec := "epochReady", apart := false, narrowed := true }
def EpochReadyUptoSaid : Prop := epochReadyUptoRow.holds Try.pinned (OpenSpec.upto epochReadySpec)

/-- 'boscagelaw07.EpochOrder', WHERE WHAT IT READS IS OF BULK AT MOST 1048576: true; the input reads as it did. -/
def epochOrderUptoRow : OpenClaim := { program := "ytnoioldbddjkiaa", sum := "c08ffc0952e876bca2664ff4640b247546f0980b0c3f6cd864a8049a30269023", func := "boscage/boscagelaw07.EpochOrder", spec := "epochOrder", apart := false, narrowed := true }
def EpochOrderUptoSaid : Prop := epochOrderUptoRow.holds Try.pinned (OpenSpec.upto epochOrderSpec)

/-- 'boscagelaw07.EpochSwaps', WHERE WHAT IT READS IS OF BULK AT MOST 1048576: true; the input reads as it did. -/
def epochSwapsUptoRow : OpenClaim := { program := "ytnoioldbddjkiaa", sum := "c08ffc0952e876bca2664ff4640b247546f0980b0c3f6cd864a8049a30269023", func := "boscage/boscagelaw07.EpochSwaps", spec := "epochSwaps", apart := false, narrowed := true }
def EpochSwapsUptoSaid : Prop := epochSwapsUptoRow.holds Try.pinned (OpenSpec.upto epochSwapsSpec)

/-- 'boscagelaw07.EpochThreads', WHERE WHAT IT READS IS OF BULK AT MOST 1048576: true; the input reads as it did. -/
def epochThreadsUptoRow : OpenClaim := { program := "ytnoioldbddjkiaa", sum := "c08ffc0952e876bca2664ff4640b247546f0980b0c3f6cd864a8049a30269023", func := "boscage/boscagelaw07.EpochThreads", spec := "epochThreads", apart := false, narrowed := true }
def EpochThreadsUptoSaid : Prop := epochThreadsUptoRow.holds Try.pinned (OpenSpec.upto epochThreadsSpec)

/-- 'boscagelaw07.EpochRuns', WHERE WHAT IT READS IS OF BULK AT MOST 1048576: true; the input reads as it did. -/
def epochRunsUptoRow : OpenClaim := { program := "ytnoioldbddjkiaa", sum := "c08ffc0952e876bca2664ff4640b247546f0980b0c3f6cd864a8049a30269023", func := "boscage/boscagelaw07.EpochRuns", spec := "epochRuns", apart := false, narrowed := true }
def EpochRunsUptoSaid : Prop := epochRunsUptoRow.holds Try.pinned (OpenSpec.upto epochRunsSpec)

/-- 'boscagelaw07.EpochNil', WHERE WHAT IT READS IS OF BULK AT MOST 1048576: true; the input reads as it did. -/
def epochNilUptoRow : OpenClaim := { program := "ytnoioldbddjkiaa", sum := "c08ffc0952e876bca2664ff4640b247546f0980b0c3f6cd864a8049a30269023", func := "boscage/boscagelaw07.EpochNil", spec := "epochNil", apart := false, narrowed := true }
def EpochNilUptoSaid : Prop := epochNilUptoRow.holds Try.pinned (OpenSpec.upto epochNilSpec)

end Rows
end Go.Proofs.Ytnoioldbddjkiaa
