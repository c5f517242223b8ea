/-
  No cell of these rows narrows 'for every input' (looked for: loops, veiled, ifaces, maps, wideKeys, modest, calm, conditions, laid).
  DERIVED. THE GIVEN ROWS OF THIS SEAT. 7 by the template 'for every input the law returns true; each argument reads behind the call as it read before'; 0 by the template 'total and deterministic' (their statements: YtolkpmbmgiplcaaTotals.lean).
  GIVEN WITH THE SEED: the statements are not yours to turn. If you find one false, say at which input.
  Laid BY PROGRAM, IN A SANDBOX (cutbox-rows.mjs): the forced cells as the released guide's own fill.sh prints them over the translation c7bddfb42aa111f7… (all of the seat's roots in one cut). By AI agents, Wed Nov 11 2026. No macro, syntax, notation, axiom, sorry.
-/
import Derived.Test.YtolkpmbmgiplcaaChecked
import GoSem.Claim
import GoSem.ClaimJoined
import GoSem.ClaimMapViews
import Derived.JoinedTies
import Derived.KernelRfl
namespace Go.Proofs.Ytolkpmbmgiplcaa
/- THE CELL 'sum', in the pinned program and in every row, IS THE sha256 OF THE DUMP (.gsa) THAT YtolkpmbmgiplcaaProg.lean LOADS. Nothing in Lean hashes anything: it is a label: what it is worth is what the hold of that sum in a sandbox is worth. -/
noncomputable def Try.pinned : Pinned := { name := "ytolkpmbmgiplcaa", sum := "c7bddfb42aa111f79bcd6ec898388454a1529ab10f4902013c1c3eeb8824021b", checked := Try.checked }
namespace Rows
def none {H : Type} : Left H := { results := [], args := [] }

/-- 'boscagelaw04.ArenaReuses': WHATEVER THE INPUT: true; the input reads as it did. -/
def arenaReusesSpec : ChangeSpec := { name := "arenaReuses", fn := fun _ => fun
  | [d1, d2, d3] => { results := [.lit (.bool true)], args := [d1, d2, d3] }
  | _ => none }
def arenaReusesRow : OpenClaim := { program := "ytolkpmbmgiplcaa", sum := "c7bddfb42aa111f79bcd6ec898388454a1529ab10f4902013c1c3eeb8824021b", func := "boscage/boscagelaw04.ArenaReuses", spec := "arenaReuses", apart := false }
def ArenaReusesSaid : Prop := arenaReusesRow.holds Try.pinned (OpenSpec.ofChange arenaReusesSpec)

/-- ITS FALSE NEIGHBOUR: 'it returns false'. Refute it at one input. -/
def arenaReusesWrong : ChangeSpec := { name := "arenaReuses", fn := fun _ => fun
  | [d1, d2, d3] => { results := [.lit (.bool false)], args := [d1, d2, d3] }
  | _ => none }
def ArenaReusesWrongFalsely : Prop := arenaReusesRow.holds Try.pinned (OpenSpec.ofChange arenaReusesWrong)

/-- 'boscagelaw04.ArenaKeeps': WHATEVER THE INPUT: true; the input reads as it did. -/
def arenaKeepsSpec : ChangeSpec := { name := "arenaKeeps", fn := fun _ => fun
  | [d] => { results := [.lit (.bool true)], args := [d] }
  | _ => none }
def arenaKeepsRow : OpenClaim := { program := "ytolkpmbmgiplcaa", sum := "c7bddfb42aa111f79bcd6ec898388454a1529ab10f4902013c1c3eeb8824021b", func := "boscage/boscagelaw04.ArenaKeeps", spec := "arenaKeeps", apart := false }
def ArenaKeepsSaid : Prop := arenaKeepsRow.holds Try.pinned (OpenSpec.ofChange arenaKeepsSpec)

/-- ITS FALSE NEIGHBOUR: 'it returns false'. Refute it at one input. -/
def arenaKeepsWrong : ChangeSpec := { name := "arenaKeeps", fn := fun _ => fun
  | [d] => { results := [.lit (.bool false)], args := [d] }
  | _ => none }
def ArenaKeepsWrongFalsely : Prop := arenaKeepsRow.holds Try.pinned (OpenSpec.ofChange arenaKeepsWrong)

/-- 'boscagelaw04.ArenaFull': WHATEVER THE INPUT: true; the input reads as it did. -/
def arenaFullSpec : ChangeSpec := { name := "arenaFull", fn := fun _ => fun
  | [d1, d2] => { results := [.lit (.bool true)], args := [d1, d2] }
  | _ => none }
def arenaFullRow : OpenClaim := { program := "ytolkpmbmgiplcaa", sum := "c7bddfb42aa111f79bcd6ec898388454a1529ab10f4902013c1c3eeb8824021b", func := "boscage/boscagelaw04.ArenaFull", spec := "arenaFull", apart := false }
def ArenaFullSaid : Prop := arenaFullRow.holds Try.pinned (OpenSpec.ofChange arenaFullSpec)

/-- ITS FALSE NEIGHBOUR: 'it returns false'. Refute it at one input. -/
def arenaFullWrong : ChangeSpec := { name := "arenaFull", fn := fun _ => fun
  | [d1, d2] => { results := [.lit (.bool false)], args := [d1, d2] }
  | _ => none }
def ArenaFullWrongFalsely : Prop := arenaFullRow.holds Try.pinned (OpenSpec.ofChange arenaFullWrong)

/-- 'boscagelaw04.ArenaSwaps': WHATEVER THE INPUT: true; the input reads as it did. -/
def arenaSwapsSpec : ChangeSpec := { name := "arenaSwaps", fn := fun _ => fun
  | [d1, d2, d3, d4] => { results := [.lit (.bool true)], args := [d1, d2, d3, d4] }
  | _ => none }
def arenaSwapsRow : OpenClaim := { program := "ytolkpmbmgiplcaa", sum := "c7bddfb42aa111f79bcd6ec898388454a1529ab10f4902013c1c3eeb8824021b", func := "boscage/boscagelaw04.ArenaSwaps", spec := "arenaSwaps", apart := false }
def ArenaSwapsSaid : Prop := arenaSwapsRow.holds Try.pinned (OpenSpec.ofChange arenaSwapsSpec)

/-- ITS FALSE NEIGHBOUR: 'it returns false'. Refute it at one input. -/
def arenaSwapsWrong : ChangeSpec := { name := "arenaSwaps", fn := fun _ => fun
  | [d1, d2, d3, d4] => { results := [.lit (.bool false)], args := [d1, d2, d3, d4] }
  | _ => none }
def ArenaSwapsWrongFalsely : Prop := arenaSwapsRow.holds Try.pinned (OpenSpec.ofChange arenaSwapsWrong)

/-- 'boscagelaw04.ArenaFaults': WHATEVER THE INPUT: true; the input reads as it did. -/
def arenaFaultsSpec : ChangeSpec := { name := "arenaFaults", fn := fun _ => fun
  | [d1, d2, d3, d4, d5] => { results := [.lit (.bool true)], args := [d1, d2, d3, d4, d5] }
  | _ => none }
def arenaFaultsRow : OpenClaim := { program := "ytolkpmbmgiplcaa", sum := "c7bddfb42aa111f79bcd6ec898388454a1529ab10f4902013c1c3eeb8824021b", func := "boscage/boscagelaw04.ArenaFaults", spec := "arenaFaults", apart := false }
def ArenaFaultsSaid : Prop := arenaFaultsRow.holds Try.pinned (OpenSpec.ofChange arenaFaultsSpec)

/-- ITS FALSE NEIGHBOUR: 'it returns false'. Refute it at one input. -/
def arenaFaultsWrong : ChangeSpec := { name := "arenaFaults", fn := fun _ => fun
  | [d1, d2, d3, d4, d5] => { results := [.lit (.bool false)], args := [d1, d2, d3, d4, d5] }
  | _ => none }
def ArenaFaultsWrongFalsely : Prop := arenaFaultsRow.holds Try.pinned (OpenSpec.ofChange arenaFaultsWrong)

/-- 'boscagelaw04.ArenaRuns': WHATEVER THE INPUT: true; the input reads as it did. -/
def arenaRunsSpec : ChangeSpec := { name := "arenaRuns", fn := fun _ => fun
  | [d1, d2] => { results := [.lit (.bool true)], args := [d1, d2] }
  | _ => none }
def arenaRunsRow : OpenClaim := { program := "ytolkpmbmgiplcaa", sum := "c7bddfb42aa111f79bcd6ec898388454a1529ab10f4902013c1c3eeb8824021b", func := "boscage/boscagelaw04.ArenaRuns", spec := "arenaRuns", apart := false }
def ArenaRunsSaid : Prop := arenaRunsRow.holds Try.pinned (OpenSpec.ofChange arenaRunsSpec)

/-- ITS FALSE NEIGHBOUR: 'it returns false'. Refute it at one input. -/
def arenaRunsWrong : ChangeSpec := { name := "arenaRuns", fn := fun _ => fun
  | [d1, d2] => { results := [.lit (.bool false)], args := [d1, d2] }
  | _ => none }
def ArenaRunsWrongFalsely : Prop := arenaRunsRow.holds Try.pinned (OpenSpec.ofChange arenaRunsWrong)

/-- 'boscagelaw04.ArenaNil': WHATEVER THE INPUT: true; the input reads as it did. -/
def arenaNilSpec : ChangeSpec := { name := "arenaNil", fn := fun _ => fun
  | [d1, d2, d3] => { results := [.lit (.bool true)], args := [d1, d2, d3] }
  | _ => none }
def arenaNilRow : OpenClaim := { program := "ytolkpmbmgiplcaa", sum := "c7bddfb42aa111f79bcd6ec898388454a1529ab10f4902013c1c3eeb8824021b", func := "boscage/boscagelaw04.ArenaNil", spec := "arenaNil", apart := false }
def ArenaNilSaid : Prop := arenaNilRow.holds Try.pinned (OpenSpec.ofChange arenaNilSpec)

/-- ITS FALSE NEIGHBOUR: 'it returns false'. Refute it at one input. -/
def arenaNilWrong : ChangeSpec := { name := "arenaNil", fn := fun _ => fun
  | [d1, d2, d3] => { results := [.lit (.bool false)], args := [d1, d2, d3] }
  | _ => none }
def ArenaNilWrongFalsely : Prop := arenaNilRow.holds Try.pinned (OpenSpec.ofChange arenaNilWrong)

/- THE SECOND FORM. 'bulk': how many values and letters a reading holds, each counted each time it is reached (what is shared counts as often as it is met; a slice's spare places count too). A statement '..UptoSaid' is the law's where the arguments, and the package variables that the reading takes, are together of bulk at most 1048576: NARROWER than '..Said'. Prove '..Said' where nothing that the law and all that it calls make is longer than what came in: it says more and counts as full. Else prove '..UptoSaid'. A law counts once. -/
mutual
def uptoBulk {H : Type} : DataW H → Nat
  | .lit (.string bytes) => bytes.length + 1
  | .lit _ => 1
  | .nil => 1
  | .ptr d => uptoBulk d + 1
  | .slice elems spare => uptoBulkAll elems + uptoBulkAll spare + 1
  | .agg parts => uptoBulkAll parts + 1
  | .iface _ d => uptoBulk d + 1
  | .map entries => uptoBulkEntries entries + 1
  | .held _ => 1
def uptoBulkAll {H : Type} : List (DataW H) → Nat
  | [] => 0
  | d :: r => uptoBulk d + uptoBulkAll r
def uptoBulkEntries {H : Type} : List (Lit × DataW H) → Nat
  | [] => 0
  | x :: r => uptoBulkEntry x + uptoBulkEntries r
def uptoBulkEntry {H : Type} : Lit × DataW H → Nat
  | (.string bytes, d) => bytes.length + uptoBulk d + 1
  | (_, d) => uptoBulk d + 1
 end
def uptoSmall : (H : Type) → List (DataW H) → Bool := fun _ ds => decide (uptoBulkAll ds ≤ 1048576)
def OpenSpec.upto (s : _root_.Go.ChangeSpec) : _root_.Go.OpenSpec := { _root_.Go.OpenSpec.ofChange s with cond := some uptoSmall }

/-- 'boscagelaw04.ArenaReuses', WHERE WHAT IT READS IS OF BULK AT MOST 1048576: true; the input reads as it did. -/
def arenaReusesUptoRow : OpenClaim := { program := "ytolkpmbmgiplcaa", sum := "c7bddfb42aa111f79bcd6ec898388454a1529ab10f4902013c1c3eeb8824021b", func := "boscage/boscagelaw04.ArenaReuses", spec := "arenaReuses", apart := false, narrowed := true }
def ArenaReusesUptoSaid : Prop := arenaReusesUptoRow.holds Try.pinned (OpenSpec.upto arenaReusesSpec)

/-- 'boscagelaw04.ArenaKeeps', WHERE WHAT IT READS IS OF BULK AT MOST 1048576: true; the input reads as it did. -/
def arenaKeepsUptoRow : OpenClaim := { program := "ytolkpmbmgiplcaa", sum := "c7bddfb42aa111f79bcd6ec898388454a1529ab10f4902013c1c3eeb8824021b", func := "boscage/boscagelaw04.ArenaKeeps", spec := "arenaKeeps", apart := false, narrowed := true }
def ArenaKeepsUptoSaid : Prop := arenaKeepsUptoRow.holds Try.pinned (OpenSpec.upto arenaKeepsSpec)

/-- 'boscagelaw04.ArenaFull', WHERE WHAT IT READS IS OF BULK AT MOST 1048576: true; the input reads as it did. -/
def arenaFullUptoRow : OpenClaim := { program := "ytolkpmbmgiplcaa", sum := "c7bddfb42aa111f79bcd6ec898388454a1529ab10f4902013c1c3eeb8824021b", func := "boscage/boscagelaw04.ArenaFull", spec := "arenaFull", apart := false, narrowed := true }
def ArenaFullUptoSaid : Prop := arenaFullUptoRow.holds Try.pinned (OpenSpec.upto arenaFullSpec)

/-- 'boscagelaw04.ArenaSwaps', WHERE WHAT IT READS IS OF BULK AT MOST 1048576: true; the input reads as it did. -/
def arenaSwapsUptoRow : OpenClaim := { program := "ytolkpmbmgiplcaa", sum := "c7bddfb42aa111f79bcd6ec898388454a1529ab10f4902013c1c3eeb8824021b", func := "boscage/boscagelaw04.ArenaSwaps", spec := "arenaSwaps", apart := false, narrowed := true }
def ArenaSwapsUptoSaid : Prop := arenaSwapsUptoRow.holds Try.pinned (OpenSpec.upto arenaSwapsSpec)

/-- 'boscagelaw04.ArenaFaults', WHERE WHAT IT READS IS OF BULK AT MOST 1048576: true; the input reads as it did. -/
def arenaFaultsUptoRow : OpenClaim := { program := "ytolkpmbmgiplcaa", sum := "c7bddfb42aa111f79bcd6ec898388454a1529ab10f4902013c1c3eeb8824021b", func := "boscage/boscagelaw04.ArenaFaults", spec := "arenaFaults", apart := false, narrowed := true }
def ArenaFaultsUptoSaid : Prop := arenaFaultsUptoRow.holds Try.pinned (OpenSpec.upto arenaFaultsSpec)

/-- 'boscagelaw04.ArenaRuns', WHERE WHAT IT READS IS OF BULK AT MOST 1048576: true; the input reads as it did. -/
def arenaRunsUptoRow : OpenClaim := { program := "ytolkpmbmgiplcaa", sum := "c7bddfb42aa111f79bcd6ec898388454a1529ab10f4902013c1c3eeb8824021b", func := "boscage/boscagelaw04.ArenaRuns", spec := "arenaRuns", apart := false, narrowed := true }
def ArenaRunsUptoSaid : Prop := arenaRunsUptoRow.holds Try.pinned (OpenSpec.upto arenaRunsSpec)

/-- 'boscagelaw04.ArenaNil', WHERE WHAT IT READS IS OF BULK AT MOST 1048576: true; the input reads as it did. -/
def arenaNilUptoRow : OpenClaim := { program := "ytolkpmbmgiplcaa", sum := "c7bddfb42aa111f79bcd6ec898388454a1529ab10f4902013c1c3eeb8824021b", func := "boscage/boscagelaw04.ArenaNil", spec := "arenaNil", apart := false, narrowed := true }
def ArenaNilUptoSaid : Prop := arenaNilUptoRow.holds Try.pinned (OpenSpec.upto arenaNilSpec)

end Rows
end Go.Proofs.Ytolkpmbmgiplcaa
