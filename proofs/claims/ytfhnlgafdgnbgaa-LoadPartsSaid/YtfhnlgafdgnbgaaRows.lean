/-
  No cell of these rows narrows 'for every input' (looked for: loops, veiled, ifaces, maps, wideKeys, modest, calm, conditions, laid).
  DERIVED. THE GIVEN ROWS OF THIS SEAT. 3 by the template 'for every input the law returns true; each argument reads behind the call as it read before'; 0 by the template 'total and deterministic' (their statements: YtfhnlgafdgnbgaaTotals.lean).
  GIVEN WITH THE SEED: the statements are not yours to turn. If you find one false, say at which input.
  Laid BY PROGRAM, IN A SANDBOX (cutbox-rows.mjs): the forced cells as the released guide's own fill.sh prints them over the translation 40adacb60273e1f8… (all of the seat's roots in one cut). By AI agents, Wed Nov 11 2026. No macro, syntax, notation, axiom, sorry.
-/
import Derived.Test.YtfhnlgafdgnbgaaChecked
import GoSem.Claim
import GoSem.ClaimJoined
import GoSem.ClaimMapViews
import Derived.JoinedTies
import Derived.KernelRfl
namespace Go.Proofs.Ytfhnlgafdgnbgaa
/- THE CELL 'sum', in the pinned program and in every row, IS THE sha256 OF THE DUMP (.gsa) THAT YtfhnlgafdgnbgaaProg.lean LOADS. Nothing in Lean hashes anything: it is a label: what it is worth is what the hold of that sum in a sandbox is worth. -/
noncomputable def Try.pinned : Pinned := { name := "ytfhnlgafdgnbgaa", sum := "40adacb60273e1f80571db92cfed10fc6d04e52d233aefea41a9d3b55b62272d", checked := Try.checked }
namespace Rows
def none {H : Type} : Left H := { results := [], args := [] }

/-- 'boscagelaw20.LoadParts': WHATEVER THE INPUT: true; the input reads as it did. -/
def loadPartsSpec : ChangeSpec := { name := "loadParts", fn := fun _ => fun
  | [d1, d2] => { results := [.lit (.bool true)], args := [d1, d2] }
  | _ => none }
def loadPartsRow : OpenClaim := { program := "ytfhnlgafdgnbgaa", sum := "40adacb60273e1f80571db92cfed10fc6d04e52d233aefea41a9d3b55b62272d", func := "boscage/boscagelaw20.LoadParts", spec := "loadParts", apart := false }
def LoadPartsSaid : Prop := loadPartsRow.holds Try.pinned (OpenSpec.ofChange loadPartsSpec)

/-- ITS FALSE NEIGHBOUR: 'it returns false'. Refute it at one input. -/
def loadPartsWrong : ChangeSpec := { name := "loadParts", fn := fun _ => fun
  | [d1, d2] => { results := [.lit (.bool false)], args := [d1, d2] }
  | _ => none }
def LoadPartsWrongFalsely : Prop := loadPartsRow.holds Try.pinned (OpenSpec.ofChange loadPartsWrong)

/-- 'boscagelaw20.LoadEven': WHATEVER THE INPUT: true; the input reads as it did. -/
def loadEvenSpec : ChangeSpec := { name := "loadEven", fn := fun _ => fun
  | [d1, d2] => { results := [.lit (.bool true)], args := [d1, d2] }
  | _ => none }
def loadEvenRow : OpenClaim := { program := "ytfhnlgafdgnbgaa", sum := "40adacb60273e1f80571db92cfed10fc6d04e52d233aefea41a9d3b55b62272d", func := "boscage/boscagelaw20.LoadEven", spec := "loadEven", apart := false }
def LoadEvenSaid : Prop := loadEvenRow.holds Try.pinned (OpenSpec.ofChange loadEvenSpec)

/-- ITS FALSE NEIGHBOUR: 'it returns false'. Refute it at one input. -/
def loadEvenWrong : ChangeSpec := { name := "loadEven", fn := fun _ => fun
  | [d1, d2] => { results := [.lit (.bool false)], args := [d1, d2] }
  | _ => none }
def LoadEvenWrongFalsely : Prop := loadEvenRow.holds Try.pinned (OpenSpec.ofChange loadEvenWrong)

/-- 'boscagelaw20.LoadNodes': WHATEVER THE INPUT: true; the input reads as it did. -/
def loadNodesSpec : ChangeSpec := { name := "loadNodes", fn := fun _ => fun
  | [d1, d2] => { results := [.lit (.bool true)], args := [d1, d2] }
  | _ => none }
def loadNodesRow : OpenClaim := { program := "ytfhnlgafdgnbgaa", sum := "40adacb60273e1f80571db92cfed10fc6d04e52d233aefea41a9d3b55b62272d", func := "boscage/boscagelaw20.LoadNodes", spec := "loadNodes", apart := false }
def LoadNodesSaid : Prop := loadNodesRow.holds Try.pinned (OpenSpec.ofChange loadNodesSpec)

/-- ITS FALSE NEIGHBOUR: 'it returns false'. Refute it at one input. -/
def loadNodesWrong : ChangeSpec := { name := "loadNodes", fn := fun _ => fun
  | [d1, d2] => { results := [.lit (.bool false)], args := [d1, d2] }
  | _ => none }
def LoadNodesWrongFalsely : Prop := loadNodesRow.holds Try.pinned (OpenSpec.ofChange loadNodesWrong)

/- THE SECOND FORM. 'bulk': how many values and letters a reading holds, each counted each time it is reached (what is shared counts as often as it is met; a slice's spare places count too). A statement '..UptoSaid' is the law's where the arguments, and the package variables that the reading takes, are together of bulk at most 1048576: NARROWER than '..Said'. Prove '..Said' where nothing that the law and all that it calls make is longer than what came in: it says more and counts as full. Else prove '..UptoSaid'. A law counts once. -/
mutual
def uptoBulk {H : Type} : DataW H → Nat
  | .lit (.string bytes) => bytes.length + 1
  | .lit _ => 1
  | .nil => 1
  | .ptr d => uptoBulk d + 1
  | .slice elems spare => uptoBulkAll elems + uptoBulkAll spare + 1
  | .agg parts => uptoBulkAll parts + 1
  | .iface _ d => uptoBulk d + 1
  | .map entries => uptoBulkEntries entries + 1
  | .held _ => 1
def uptoBulkAll {H : Type} : List (DataW H) → Nat
  | [] => 0
  | d :: r => uptoBulk d + uptoBulkAll r
def uptoBulkEntries {H : Type} : List (Lit × DataW H) → Nat
  | [] => 0
  | x :: r => uptoBulkEntry x + uptoBulkEntries r
def uptoBulkEntry {H : Type} : Lit × DataW H → Nat
  | (.string bytes, d) => bytes.length + uptoBulk d + 1
  | (_, d) => uptoBulk d + 1
 end
def uptoSmall : (H : Type) → List (DataW H) → Bool := fun _ ds => decide (uptoBulkAll ds ≤ 1048576)
def OpenSpec.upto (s : _root_.Go.ChangeSpec) : _root_.Go.OpenSpec := { _root_.Go.OpenSpec.ofChange s with cond := some uptoSmall }

/-- 'boscagelaw20.LoadParts', WHERE WHAT IT READS IS OF BULK AT MOST 1048576: true; the input reads as it did. -/
def loadPartsUptoRow : OpenClaim := { program := "ytfhnlgafdgnbgaa", sum := "40adacb60273e1f80571db92cfed10fc6d04e52d233aefea41a9d3b55b62272d", func := "boscage/boscagelaw20.LoadParts", spec := "loadParts", apart := false, narrowed := true }
def LoadPartsUptoSaid : Prop := loadPartsUptoRow.holds Try.pinned (OpenSpec.upto loadPartsSpec)

/-- 'boscagelaw20.LoadEven', WHERE WHAT IT READS IS OF BULK AT MOST 1048576: true; the input reads as it did. -/
def loadEvenUptoRow : OpenClaim := { program := "ytfhnlgafdgnbgaa", sum := "40adacb60273e1f80571db92cfed10fc6d04e52d233aefea41a9d3b55b62272d", func := "boscage/boscagelaw20.LoadEven", spec := "loadEven", apart := false, narrowed := true }
def LoadEvenUptoSaid : Prop := loadEvenUptoRow.holds Try.pinned (OpenSpec.upto loadEvenSpec)

/-- 'boscagelaw20.LoadNodes', WHERE WHAT IT READS IS OF BULK AT MOST 1048576: true; the input reads as it did. -/
def loadNodesUptoRow : OpenClaim := { program := "ytfhnlgafdgnbgaa", sum := "40adacb60273e1f80571db92cfed10fc6d04e52d233aefea41a9d3b55b62272d", func := "boscage/boscagelaw20.LoadNodes", spec := "loadNodes", apart := false, narrowed := true }
def LoadNodesUptoSaid : Prop := loadNodesUptoRow.holds Try.pinned (OpenSpec.upto loadNodesSpec)

end Rows
end Go.Proofs.Ytfhnlgafdgnbgaa
