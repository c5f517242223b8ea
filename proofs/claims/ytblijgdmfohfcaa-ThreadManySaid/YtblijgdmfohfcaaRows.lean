/-
  No cell of these rows narrows 'for every input' (looked for: loops, veiled, ifaces, maps, wideKeys, modest, calm, conditions, laid).
  DERIVED. THE GIVEN ROWS OF THIS SEAT. 7 by the template 'for every input the law returns true; each argument reads behind the call as it read before'; 0 by the template 'total and deterministic' (their statements: YtblijgdmfohfcaaTotals.lean).
  GIVEN WITH THE SEED: the statements are not yours to turn. If you find one false, say at which input.
  Laid BY PROGRAM, IN A SANDBOX (cutbox-rows.mjs): the forced cells as the released guide's own fill.sh prints them over the translation 5492dbca2fbb0714… (all of the seat's roots in one cut). By AI agents, Wed Nov 11 2026. No macro, syntax, notation, axiom, sorry.
-/
import Derived.Test.YtblijgdmfohfcaaChecked
import GoSem.Claim
import GoSem.ClaimJoined
import GoSem.ClaimMapViews
import Derived.JoinedTies
import Derived.KernelRfl
namespace Go.Proofs.Ytblijgdmfohfcaa
/- THE CELL 'sum', in the pinned program and in every row, IS THE sha256 OF THE DUMP (.gsa) THAT YtblijgdmfohfcaaProg.lean LOADS. Nothing in Lean hashes anything: it is a label: what it is worth is what the hold of that sum in a sandbox is worth. -/
noncomputable def Try.pinned : Pinned := { name := "ytblijgdmfohfcaa", sum := "5492dbca2fbb07147edc632229e857de812a82d8880fc6a0105441b6c8437534", checked := Try.checked }
namespace Rows
def none {H : Type} : Left H := { results := [], args := [] }

/-- 'boscagelaw06.ThreadRuns': WHATEVER THE INPUT: true; the input reads as it did. -/
def threadRunsSpec : ChangeSpec := { name := "threadRuns", fn := fun _ => fun
  | [d1, d2] => { results := [.lit (.bool true)], args := [d1, d2] }
  | _ => none }
def threadRunsRow : OpenClaim := { program := "ytblijgdmfohfcaa", sum := "5492dbca2fbb07147edc632229e857de812a82d8880fc6a0105441b6c8437534", func := "boscage/boscagelaw06.ThreadRuns", spec := "threadRuns", unfollowed := true, recurses := true, apart := false }
def ThreadRunsSaid : Prop := threadRunsRow.holds Try.pinned (OpenSpec.ofChange threadRunsSpec)

/-- ITS FALSE NEIGHBOUR: 'it returns false'. Refute it at one input. -/
def threadRunsWrong : ChangeSpec := { name := "threadRuns", fn := fun _ => fun
  | [d1, d2] => { results := [.lit (.bool false)], args := [d1, d2] }
  | _ => none }
def ThreadRunsWrongFalsely : Prop := threadRunsRow.holds Try.pinned (OpenSpec.ofChange threadRunsWrong)

/-- 'boscagelaw06.ThreadMany': WHATEVER THE INPUT: true; the input reads as it did. -/
def threadManySpec : ChangeSpec := { name := "threadMany", fn := fun _ => fun
  | [d1, d2, d3] => { results := [.lit (.bool true)], args := [d1, d2, d3] }
  | _ => none }
def threadManyRow : OpenClaim := { program := "ytblijgdmfohfcaa", sum := "5492dbca2fbb07147edc632229e857de812a82d8880fc6a0105441b6c8437534", func := "boscage/boscagelaw06.ThreadMany", spec := "threadMany", unfollowed := true, recurses := true, apart := false }
def ThreadManySaid : Prop := threadManyRow.holds Try.pinned (OpenSpec.ofChange threadManySpec)

/-- ITS FALSE NEIGHBOUR: 'it returns false'. Refute it at one input. -/
def threadManyWrong : ChangeSpec := { name := "threadMany", fn := fun _ => fun
  | [d1, d2, d3] => { results := [.lit (.bool false)], args := [d1, d2, d3] }
  | _ => none }
def ThreadManyWrongFalsely : Prop := threadManyRow.holds Try.pinned (OpenSpec.ofChange threadManyWrong)

/-- 'boscagelaw06.ThreadEnds': WHATEVER THE INPUT: true; the input reads as it did. -/
def threadEndsSpec : ChangeSpec := { name := "threadEnds", fn := fun _ => fun
  | [d1, d2] => { results := [.lit (.bool true)], args := [d1, d2] }
  | _ => none }
def threadEndsRow : OpenClaim := { program := "ytblijgdmfohfcaa", sum := "5492dbca2fbb07147edc632229e857de812a82d8880fc6a0105441b6c8437534", func := "boscage/boscagelaw06.ThreadEnds", spec := "threadEnds", unfollowed := true, recurses := true, apart := false }
def ThreadEndsSaid : Prop := threadEndsRow.holds Try.pinned (OpenSpec.ofChange threadEndsSpec)

/-- ITS FALSE NEIGHBOUR: 'it returns false'. Refute it at one input. -/
def threadEndsWrong : ChangeSpec := { name := "threadEnds", fn := fun _ => fun
  | [d1, d2] => { results := [.lit (.bool false)], args := [d1, d2] }
  | _ => none }
def ThreadEndsWrongFalsely : Prop := threadEndsRow.holds Try.pinned (OpenSpec.ofChange threadEndsWrong)

/-- 'boscagelaw06.ThreadLong': WHATEVER THE INPUT: true; the input reads as it did. -/
def threadLongSpec : ChangeSpec := { name := "threadLong", fn := fun _ => fun
  | [d1, d2] => { results := [.lit (.bool true)], args := [d1, d2] }
  | _ => none }
def threadLongRow : OpenClaim := { program := "ytblijgdmfohfcaa", sum := "5492dbca2fbb07147edc632229e857de812a82d8880fc6a0105441b6c8437534", func := "boscage/boscagelaw06.ThreadLong", spec := "threadLong", unfollowed := true, recurses := true, apart := false }
def ThreadLongSaid : Prop := threadLongRow.holds Try.pinned (OpenSpec.ofChange threadLongSpec)

/-- ITS FALSE NEIGHBOUR: 'it returns false'. Refute it at one input. -/
def threadLongWrong : ChangeSpec := { name := "threadLong", fn := fun _ => fun
  | [d1, d2] => { results := [.lit (.bool false)], args := [d1, d2] }
  | _ => none }
def ThreadLongWrongFalsely : Prop := threadLongRow.holds Try.pinned (OpenSpec.ofChange threadLongWrong)

/-- 'boscagelaw06.ThreadNone': WHATEVER THE INPUT: true; the input reads as it did. -/
def threadNoneSpec : ChangeSpec := { name := "threadNone", fn := fun _ => fun
  | [d] => { results := [.lit (.bool true)], args := [d] }
  | _ => none }
def threadNoneRow : OpenClaim := { program := "ytblijgdmfohfcaa", sum := "5492dbca2fbb07147edc632229e857de812a82d8880fc6a0105441b6c8437534", func := "boscage/boscagelaw06.ThreadNone", spec := "threadNone", unfollowed := true, recurses := true, apart := false }
def ThreadNoneSaid : Prop := threadNoneRow.holds Try.pinned (OpenSpec.ofChange threadNoneSpec)

/-- ITS FALSE NEIGHBOUR: 'it returns false'. Refute it at one input. -/
def threadNoneWrong : ChangeSpec := { name := "threadNone", fn := fun _ => fun
  | [d] => { results := [.lit (.bool false)], args := [d] }
  | _ => none }
def ThreadNoneWrongFalsely : Prop := threadNoneRow.holds Try.pinned (OpenSpec.ofChange threadNoneWrong)

/-- 'boscagelaw06.ThreadOutside': WHATEVER THE INPUT: true; the input reads as it did. -/
def threadOutsideSpec : ChangeSpec := { name := "threadOutside", fn := fun _ => fun
  | [d] => { results := [.lit (.bool true)], args := [d] }
  | _ => none }
def threadOutsideRow : OpenClaim := { program := "ytblijgdmfohfcaa", sum := "5492dbca2fbb07147edc632229e857de812a82d8880fc6a0105441b6c8437534", func := "boscage/boscagelaw06.ThreadOutside", spec := "threadOutside", unfollowed := true, recurses := true, apart := false }
def ThreadOutsideSaid : Prop := threadOutsideRow.holds Try.pinned (OpenSpec.ofChange threadOutsideSpec)

/-- ITS FALSE NEIGHBOUR: 'it returns false'. Refute it at one input. -/
def threadOutsideWrong : ChangeSpec := { name := "threadOutside", fn := fun _ => fun
  | [d] => { results := [.lit (.bool false)], args := [d] }
  | _ => none }
def ThreadOutsideWrongFalsely : Prop := threadOutsideRow.holds Try.pinned (OpenSpec.ofChange threadOutsideWrong)

/-- 'boscagelaw06.ThreadAsks': WHATEVER THE INPUT: true; the input reads as it did. -/
def threadAsksSpec : ChangeSpec := { name := "threadAsks", fn := fun _ => fun
  | [d1, d2] => { results := [.lit (.bool true)], args := [d1, d2] }
  | _ => none }
def threadAsksRow : OpenClaim := { program := "ytblijgdmfohfcaa", sum := "5492dbca2fbb07147edc632229e857de812a82d8880fc6a0105441b6c8437534", func := "boscage/boscagelaw06.ThreadAsks", spec := "threadAsks", unfollowed := true, recurses := true, apart := false }
def ThreadAsksSaid : Prop := threadAsksRow.holds Try.pinned (OpenSpec.ofChange threadAsksSpec)

/-- ITS FALSE NEIGHBOUR: 'it returns false'. Refute it at one input. -/
def threadAsksWrong : ChangeSpec := { name := "threadAsks", fn := fun _ => fun
  | [d1, d2] => { results := [.lit (.bool false)], args := [d1, d2] }
  | _ => none }
def ThreadAsksWrongFalsely : Prop := threadAsksRow.holds Try.pinned (OpenSpec.ofChange threadAsksWrong)

/- THE SECOND FORM. 'bulk': how many values and letters a reading holds, each counted each time it is reached (what is shared counts as often as it is met; a slice's spare places count too). A statement '..UptoSaid' is the law's where the arguments, and the package variables that the reading takes, are together of bulk at most 1048576: NARROWER than '..Said'. Prove '..Said' where nothing that the law and all that it calls make is longer than what came in: it says more and counts as full. Else prove '..UptoSaid'. A law counts once. -/
mutual
def uptoBulk {H : Type} : DataW H → Nat
  | .lit (.string bytes) => bytes.length + 1
  | .lit _ => 1
  | .nil => 1
  | .ptr d => uptoBulk d + 1
  | .slice elems spare => uptoBulkAll elems + uptoBulkAll spare + 1
  | .agg parts => uptoBulkAll parts + 1
  | .iface _ d => uptoBulk d + 1
  | .map entries => uptoBulkEntries entries + 1
  | .held _ => 1
def uptoBulkAll {H : Type} : List (DataW H) → Nat
  | [] => 0
  | d :: r => uptoBulk d + uptoBulkAll r
def uptoBulkEntries {H : Type} : List (Lit × DataW H) → Nat
  | [] => 0
  | x :: r => uptoBulkEntry x + uptoBulkEntries r
def uptoBulkEntry {H : Type} : Lit × DataW H → Nat
  | (.string bytes, d) => bytes.length + uptoBulk d + 1
  | (_, d) => uptoBulk d + 1
 end
def uptoSmall : (H : Type) → List (DataW H) → Bool := fun _ ds => decide (uptoBulkAll ds ≤ 1048576)
def OpenSpec.upto (s : _root_.Go.ChangeSpec) : _root_.Go.OpenSpec := { _root_.Go.OpenSpec.ofChange s with cond := some uptoSmall }

/-- 'boscagelaw06.ThreadRuns', WHERE WHAT IT READS IS OF BULK AT MOST 1048576: true; the input reads as it did. -/
def threadRunsUptoRow : OpenClaim := { program := "ytblijgdmfohfcaa", sum := "5492dbca2fbb07147edc632229e857de812a82d8880fc6a0105441b6c8437534", func := "boscage/boscagelaw06.ThreadRuns", spec := "threadRuns", unfollowed := true, recurses := true, apart := false, narrowed := true }
def ThreadRunsUptoSaid : Prop := threadRunsUptoRow.holds Try.pinned (OpenSpec.upto threadRunsSpec)

/-- 'boscagelaw06.ThreadMany', WHERE WHAT IT READS IS OF BULK AT MOST 1048576: true; the input reads as it did. -/
def threadManyUptoRow : OpenClaim := { program := "ytblijgdmfohfcaa", sum := "5492dbca2fbb07147edc632229e857de812a82d8880fc6a0105441b6c8437534", func := "boscage/boscagelaw06.ThreadMany", spec := "threadMany", unfollowed := true, recurses := true, apart := false, narrowed := true }
def ThreadManyUptoSaid : Prop := threadManyUptoRow.holds Try.pinned (OpenSpec.upto threadManySpec)

/-- 'boscagelaw06.ThreadEnds', WHERE WHAT IT READS IS OF BULK AT MOST 1048576: true; the input reads as it did. -/
def threadEndsUptoRow : OpenClaim := { program := "ytblijgdmfohfcaa", sum := "5492dbca2fbb07147edc632229e857de812a82d8880fc6a0105441b6c8437534", func := "boscage/boscagelaw06.ThreadEnds", spec := "threadEnds", unfollowed := true, recurses := true, apart := false, narrowed := true }
def ThreadEndsUptoSaid : Prop := threadEndsUptoRow.holds Try.pinned (OpenSpec.upto threadEndsSpec)

/-- 'boscagelaw06.ThreadLong', WHERE WHAT IT READS IS OF BULK AT MOST 1048576: true; the input reads as it did. -/
def threadLongUptoRow : OpenClaim := { program := "ytblijgdmfohfcaa", sum := "5492dbca2fbb07147edc632229e857de812a82d8880fc6a0105441b6c8437534", func := "boscage/boscagelaw06.ThreadLong", spec := "threadLong", unfollowed := true, recurses := true, apart := false, narrowed := true }
def ThreadLongUptoSaid : Prop := threadLongUptoRow.holds Try.pinned (OpenSpec.upto threadLongSpec)

/-- 'boscagelaw06.ThreadNone', WHERE WHAT IT READS IS OF BULK AT MOST 1048576: true; the input reads as it did. -/
def threadNoneUptoRow : OpenClaim := { program := "ytblijgdmfohfcaa", sum := "5492dbca2fbb07147edc632229e857de812a82d8880fc6a0105441b6c8437534", func := "boscage/boscagelaw06.ThreadNone", spec := "threadNone", unfollowed := true, recurses := true, apart := false, narrowed := true }
def ThreadNoneUptoSaid : Prop := threadNoneUptoRow.holds Try.pinned (OpenSpec.upto threadNoneSpec)

/-- 'boscagelaw06.ThreadOutside', WHERE WHAT IT READS IS OF BULK AT MOST 1048576: true; the input reads as it did. -/
def threadOutsideUptoRow : OpenClaim := { program := "ytblijgdmfohfcaa", sum := "5492dbca2fbb07147edc632229e857de812a82d8880fc6a0105441b6c8437534", func := "boscage/boscagelaw06.ThreadOutside", spec := "threadOutside", unfollowed := true, recurses := true, apart := false, narrowed := true }
def ThreadOutsideUptoSaid : Prop := threadOutsideUptoRow.holds Try.pinned (OpenSpec.upto threadOutsideSpec)

/-- 'boscagelaw06.ThreadAsks', WHERE WHAT IT READS IS OF BULK AT MOST 1048576: true; the input reads as it did. -/
def threadAsksUptoRow : OpenClaim := { program := "ytblijgdmfohfcaa", sum := "5492dbca2fbb07147edc632229e857de812a82d8880fc6a0105441b6c8437534", func := "boscage/boscagelaw06.ThreadAsks", spec := "threadAsks", unfollowed := true, recurses := true, apart := false, narrowed := true }
def ThreadAsksUptoSaid : Prop := threadAsksUptoRow.holds Try.pinned (OpenSpec.upto threadAsksSpec)

end Rows
end Go.Proofs.Ytblijgdmfohfcaa
