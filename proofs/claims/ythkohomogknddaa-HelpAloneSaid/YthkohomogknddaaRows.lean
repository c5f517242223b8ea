/-
  No cell of these rows narrows 'for every input' (looked for: loops, veiled, ifaces, maps, wideKeys, modest, calm, conditions, laid).
  DERIVED. THE GIVEN ROWS OF THIS SEAT. 12 by the template 'for every input the law returns true; each argument reads behind the call as it read before'; 0 by the template 'total and deterministic' (their statements: YthkohomogknddaaTotals.lean).
  GIVEN WITH THE SEED: the statements are not yours to turn. If you find one false, say at which input.
  Laid BY PROGRAM, IN A SANDBOX (cutbox-rows.mjs): the forced cells as the released guide's own fill.sh prints them over the translation 346b3bd7f27e173e… (all of the seat's roots in one cut). By AI agents, Wed Nov 11 2026. No macro, syntax, notation, axiom, sorry.
-/
import Derived.Test.YthkohomogknddaaChecked
import GoSem.Claim
import GoSem.ClaimJoined
import GoSem.ClaimMapViews
import Derived.JoinedTies
import Derived.KernelRfl
namespace Go.Proofs.Ythkohomogknddaa
/- THE CELL 'sum', in the pinned program and in every row, IS THE sha256 OF THE DUMP (.gsa) THAT YthkohomogknddaaProg.lean LOADS. Nothing in Lean hashes anything: it is a label: what it is worth is what the hold of that sum in a sandbox is worth. -/
noncomputable def Try.pinned : Pinned := { name := "ythkohomogknddaa", sum := "346b3bd7f27e173e1ff1fdeda513098651565f62170556e1ff52fed0ac3c6ff5", checked := Try.checked }
namespace Rows
def none {H : Type} : Left H := { results := [], args := [] }

/-- 'boscagelaw08.WorldBegins': WHATEVER THE INPUT: true; the input reads as it did. -/
def worldBeginsSpec : ChangeSpec := { name := "worldBegins", fn := fun _ => fun
  | [d1, d2, d3] => { results := [.lit (.bool true)], args := [d1, d2, d3] }
  | _ => none }
def worldBeginsRow : OpenClaim := { program := "ythkohomogknddaa", sum := "346b3bd7f27e173e1ff1fdeda513098651565f62170556e1ff52fed0ac3c6ff5", func := "boscage/boscagelaw08.WorldBegins", spec := "worldBegins", unfollowed := true, recurses := true, apart := false }
def WorldBeginsSaid : Prop := worldBeginsRow.holds Try.pinned (OpenSpec.ofChange worldBeginsSpec)

/-- ITS FALSE NEIGHBOUR: 'it returns false'. Refute it at one input. -/
def worldBeginsWrong : ChangeSpec := { name := "worldBegins", fn := fun _ => fun
  | [d1, d2, d3] => { results := [.lit (.bool false)], args := [d1, d2, d3] }
  | _ => none }
def WorldBeginsWrongFalsely : Prop := worldBeginsRow.holds Try.pinned (OpenSpec.ofChange worldBeginsWrong)

/-- 'boscagelaw08.WorldEnds': WHATEVER THE INPUT: true; the input reads as it did. -/
def worldEndsSpec : ChangeSpec := { name := "worldEnds", fn := fun _ => fun
  | [d1, d2, d3] => { results := [.lit (.bool true)], args := [d1, d2, d3] }
  | _ => none }
def worldEndsRow : OpenClaim := { program := "ythkohomogknddaa", sum := "346b3bd7f27e173e1ff1fdeda513098651565f62170556e1ff52fed0ac3c6ff5", func := "boscage/boscagelaw08.WorldEnds", spec := "worldEnds", unfollowed := true, recurses := true, apart := false }
def WorldEndsSaid : Prop := worldEndsRow.holds Try.pinned (OpenSpec.ofChange worldEndsSpec)

/-- ITS FALSE NEIGHBOUR: 'it returns false'. Refute it at one input. -/
def worldEndsWrong : ChangeSpec := { name := "worldEnds", fn := fun _ => fun
  | [d1, d2, d3] => { results := [.lit (.bool false)], args := [d1, d2, d3] }
  | _ => none }
def WorldEndsWrongFalsely : Prop := worldEndsRow.holds Try.pinned (OpenSpec.ofChange worldEndsWrong)

/-- 'boscagelaw08.WorldGrace': WHATEVER THE INPUT: true; the input reads as it did. -/
def worldGraceSpec : ChangeSpec := { name := "worldGrace", fn := fun _ => fun
  | [d1, d2] => { results := [.lit (.bool true)], args := [d1, d2] }
  | _ => none }
def worldGraceRow : OpenClaim := { program := "ythkohomogknddaa", sum := "346b3bd7f27e173e1ff1fdeda513098651565f62170556e1ff52fed0ac3c6ff5", func := "boscage/boscagelaw08.WorldGrace", spec := "worldGrace", unfollowed := true, recurses := true, apart := false }
def WorldGraceSaid : Prop := worldGraceRow.holds Try.pinned (OpenSpec.ofChange worldGraceSpec)

/-- ITS FALSE NEIGHBOUR: 'it returns false'. Refute it at one input. -/
def worldGraceWrong : ChangeSpec := { name := "worldGrace", fn := fun _ => fun
  | [d1, d2] => { results := [.lit (.bool false)], args := [d1, d2] }
  | _ => none }
def WorldGraceWrongFalsely : Prop := worldGraceRow.holds Try.pinned (OpenSpec.ofChange worldGraceWrong)

/-- 'boscagelaw08.WorldFrees': WHATEVER THE INPUT: true; the input reads as it did. -/
def worldFreesSpec : ChangeSpec := { name := "worldFrees", fn := fun _ => fun
  | [d1, d2, d3] => { results := [.lit (.bool true)], args := [d1, d2, d3] }
  | _ => none }
def worldFreesRow : OpenClaim := { program := "ythkohomogknddaa", sum := "346b3bd7f27e173e1ff1fdeda513098651565f62170556e1ff52fed0ac3c6ff5", func := "boscage/boscagelaw08.WorldFrees", spec := "worldFrees", unfollowed := true, recurses := true, apart := false }
def WorldFreesSaid : Prop := worldFreesRow.holds Try.pinned (OpenSpec.ofChange worldFreesSpec)

/-- ITS FALSE NEIGHBOUR: 'it returns false'. Refute it at one input. -/
def worldFreesWrong : ChangeSpec := { name := "worldFrees", fn := fun _ => fun
  | [d1, d2, d3] => { results := [.lit (.bool false)], args := [d1, d2, d3] }
  | _ => none }
def WorldFreesWrongFalsely : Prop := worldFreesRow.holds Try.pinned (OpenSpec.ofChange worldFreesWrong)

/-- 'boscagelaw08.WorldMakes': WHATEVER THE INPUT: true; the input reads as it did. -/
def worldMakesSpec : ChangeSpec := { name := "worldMakes", fn := fun _ => fun
  | [d1, d2] => { results := [.lit (.bool true)], args := [d1, d2] }
  | _ => none }
def worldMakesRow : OpenClaim := { program := "ythkohomogknddaa", sum := "346b3bd7f27e173e1ff1fdeda513098651565f62170556e1ff52fed0ac3c6ff5", func := "boscage/boscagelaw08.WorldMakes", spec := "worldMakes", unfollowed := true, recurses := true, apart := false }
def WorldMakesSaid : Prop := worldMakesRow.holds Try.pinned (OpenSpec.ofChange worldMakesSpec)

/-- ITS FALSE NEIGHBOUR: 'it returns false'. Refute it at one input. -/
def worldMakesWrong : ChangeSpec := { name := "worldMakes", fn := fun _ => fun
  | [d1, d2] => { results := [.lit (.bool false)], args := [d1, d2] }
  | _ => none }
def WorldMakesWrongFalsely : Prop := worldMakesRow.holds Try.pinned (OpenSpec.ofChange worldMakesWrong)

/-- 'boscagelaw08.WorldLeaves': WHATEVER THE INPUT: true; the input reads as it did. -/
def worldLeavesSpec : ChangeSpec := { name := "worldLeaves", fn := fun _ => fun
  | [d1, d2] => { results := [.lit (.bool true)], args := [d1, d2] }
  | _ => none }
def worldLeavesRow : OpenClaim := { program := "ythkohomogknddaa", sum := "346b3bd7f27e173e1ff1fdeda513098651565f62170556e1ff52fed0ac3c6ff5", func := "boscage/boscagelaw08.WorldLeaves", spec := "worldLeaves", unfollowed := true, recurses := true, apart := false }
def WorldLeavesSaid : Prop := worldLeavesRow.holds Try.pinned (OpenSpec.ofChange worldLeavesSpec)

/-- ITS FALSE NEIGHBOUR: 'it returns false'. Refute it at one input. -/
def worldLeavesWrong : ChangeSpec := { name := "worldLeaves", fn := fun _ => fun
  | [d1, d2] => { results := [.lit (.bool false)], args := [d1, d2] }
  | _ => none }
def WorldLeavesWrongFalsely : Prop := worldLeavesRow.holds Try.pinned (OpenSpec.ofChange worldLeavesWrong)

/-- 'boscagelaw08.WorldNew': WHATEVER THE INPUT: true; the input reads as it did. -/
def worldNewSpec : ChangeSpec := { name := "worldNew", fn := fun _ => fun
  | [d1, d2, d3, d4, d5] => { results := [.lit (.bool true)], args := [d1, d2, d3, d4, d5] }
  | _ => none }
def worldNewRow : OpenClaim := { program := "ythkohomogknddaa", sum := "346b3bd7f27e173e1ff1fdeda513098651565f62170556e1ff52fed0ac3c6ff5", func := "boscage/boscagelaw08.WorldNew", spec := "worldNew", unfollowed := true, recurses := true, apart := false }
def WorldNewSaid : Prop := worldNewRow.holds Try.pinned (OpenSpec.ofChange worldNewSpec)

/-- ITS FALSE NEIGHBOUR: 'it returns false'. Refute it at one input. -/
def worldNewWrong : ChangeSpec := { name := "worldNew", fn := fun _ => fun
  | [d1, d2, d3, d4, d5] => { results := [.lit (.bool false)], args := [d1, d2, d3, d4, d5] }
  | _ => none }
def WorldNewWrongFalsely : Prop := worldNewRow.holds Try.pinned (OpenSpec.ofChange worldNewWrong)

/-- 'boscagelaw09.HelpRivals': WHATEVER THE INPUT: true; the input reads as it did. -/
def helpRivalsSpec : ChangeSpec := { name := "helpRivals", fn := fun _ => fun
  | [d1, d2, d3, d4] => { results := [.lit (.bool true)], args := [d1, d2, d3, d4] }
  | _ => none }
def helpRivalsRow : OpenClaim := { program := "ythkohomogknddaa", sum := "346b3bd7f27e173e1ff1fdeda513098651565f62170556e1ff52fed0ac3c6ff5", func := "boscage/boscagelaw09.HelpRivals", spec := "helpRivals", unfollowed := true, recurses := true, apart := false }
def HelpRivalsSaid : Prop := helpRivalsRow.holds Try.pinned (OpenSpec.ofChange helpRivalsSpec)

/-- ITS FALSE NEIGHBOUR: 'it returns false'. Refute it at one input. -/
def helpRivalsWrong : ChangeSpec := { name := "helpRivals", fn := fun _ => fun
  | [d1, d2, d3, d4] => { results := [.lit (.bool false)], args := [d1, d2, d3, d4] }
  | _ => none }
def HelpRivalsWrongFalsely : Prop := helpRivalsRow.holds Try.pinned (OpenSpec.ofChange helpRivalsWrong)

/-- 'boscagelaw09.HelpAgain': WHATEVER THE INPUT: true; the input reads as it did. -/
def helpAgainSpec : ChangeSpec := { name := "helpAgain", fn := fun _ => fun
  | [d1, d2, d3] => { results := [.lit (.bool true)], args := [d1, d2, d3] }
  | _ => none }
def helpAgainRow : OpenClaim := { program := "ythkohomogknddaa", sum := "346b3bd7f27e173e1ff1fdeda513098651565f62170556e1ff52fed0ac3c6ff5", func := "boscage/boscagelaw09.HelpAgain", spec := "helpAgain", unfollowed := true, recurses := true, apart := false }
def HelpAgainSaid : Prop := helpAgainRow.holds Try.pinned (OpenSpec.ofChange helpAgainSpec)

/-- ITS FALSE NEIGHBOUR: 'it returns false'. Refute it at one input. -/
def helpAgainWrong : ChangeSpec := { name := "helpAgain", fn := fun _ => fun
  | [d1, d2, d3] => { results := [.lit (.bool false)], args := [d1, d2, d3] }
  | _ => none }
def HelpAgainWrongFalsely : Prop := helpAgainRow.holds Try.pinned (OpenSpec.ofChange helpAgainWrong)

/-- 'boscagelaw09.HelpMany': WHATEVER THE INPUT: true; the input reads as it did. -/
def helpManySpec : ChangeSpec := { name := "helpMany", fn := fun _ => fun
  | [d1, d2, d3, d4, d5] => { results := [.lit (.bool true)], args := [d1, d2, d3, d4, d5] }
  | _ => none }
def helpManyRow : OpenClaim := { program := "ythkohomogknddaa", sum := "346b3bd7f27e173e1ff1fdeda513098651565f62170556e1ff52fed0ac3c6ff5", func := "boscage/boscagelaw09.HelpMany", spec := "helpMany", unfollowed := true, recurses := true, apart := false }
def HelpManySaid : Prop := helpManyRow.holds Try.pinned (OpenSpec.ofChange helpManySpec)

/-- ITS FALSE NEIGHBOUR: 'it returns false'. Refute it at one input. -/
def helpManyWrong : ChangeSpec := { name := "helpMany", fn := fun _ => fun
  | [d1, d2, d3, d4, d5] => { results := [.lit (.bool false)], args := [d1, d2, d3, d4, d5] }
  | _ => none }
def HelpManyWrongFalsely : Prop := helpManyRow.holds Try.pinned (OpenSpec.ofChange helpManyWrong)

/-- 'boscagelaw09.HelpAlone': WHATEVER THE INPUT: true; the input reads as it did. -/
def helpAloneSpec : ChangeSpec := { name := "helpAlone", fn := fun _ => fun
  | [d1, d2, d3, d4, d5, d6] => { results := [.lit (.bool true)], args := [d1, d2, d3, d4, d5, d6] }
  | _ => none }
def helpAloneRow : OpenClaim := { program := "ythkohomogknddaa", sum := "346b3bd7f27e173e1ff1fdeda513098651565f62170556e1ff52fed0ac3c6ff5", func := "boscage/boscagelaw09.HelpAlone", spec := "helpAlone", unfollowed := true, recurses := true, apart := false }
def HelpAloneSaid : Prop := helpAloneRow.holds Try.pinned (OpenSpec.ofChange helpAloneSpec)

/-- ITS FALSE NEIGHBOUR: 'it returns false'. Refute it at one input. -/
def helpAloneWrong : ChangeSpec := { name := "helpAlone", fn := fun _ => fun
  | [d1, d2, d3, d4, d5, d6] => { results := [.lit (.bool false)], args := [d1, d2, d3, d4, d5, d6] }
  | _ => none }
def HelpAloneWrongFalsely : Prop := helpAloneRow.holds Try.pinned (OpenSpec.ofChange helpAloneWrong)

/-- 'boscagelaw09.HelpNone': WHATEVER THE INPUT: true; the input reads as it did. -/
def helpNoneSpec : ChangeSpec := { name := "helpNone", fn := fun _ => fun
  | [d] => { results := [.lit (.bool true)], args := [d] }
  | _ => none }
def helpNoneRow : OpenClaim := { program := "ythkohomogknddaa", sum := "346b3bd7f27e173e1ff1fdeda513098651565f62170556e1ff52fed0ac3c6ff5", func := "boscage/boscagelaw09.HelpNone", spec := "helpNone", unfollowed := true, recurses := true, apart := false }
def HelpNoneSaid : Prop := helpNoneRow.holds Try.pinned (OpenSpec.ofChange helpNoneSpec)

/-- ITS FALSE NEIGHBOUR: 'it returns false'. Refute it at one input. -/
def helpNoneWrong : ChangeSpec := { name := "helpNone", fn := fun _ => fun
  | [d] => { results := [.lit (.bool false)], args := [d] }
  | _ => none }
def HelpNoneWrongFalsely : Prop := helpNoneRow.holds Try.pinned (OpenSpec.ofChange helpNoneWrong)

/- THE SECOND FORM. 'bulk': how many values and letters a reading holds, each counted each time it is reached (what is shared counts as often as it is met; a slice's spare places count too). A statement '..UptoSaid' is the law's where the arguments, and the package variables that the reading takes, are together of bulk at most 1048576: NARROWER than '..Said'. Prove '..Said' where nothing that the law and all that it calls make is longer than what came in: it says more and counts as full. Else prove '..UptoSaid'. A law counts once. -/
mutual
def uptoBulk {H : Type} : DataW H → Nat
  | .lit (.string bytes) => bytes.length + 1
  | .lit _ => 1
  | .nil => 1
  | .ptr d => uptoBulk d + 1
  | .slice elems spare => uptoBulkAll elems + uptoBulkAll spare + 1
  | .agg parts => uptoBulkAll parts + 1
  | .iface _ d => uptoBulk d + 1
  | .map entries => uptoBulkEntries entries + 1
  | .held _ => 1
def uptoBulkAll {H : Type} : List (DataW H) → Nat
  | [] => 0
  | d :: r => uptoBulk d + uptoBulkAll r
def uptoBulkEntries {H : Type} : List (Lit × DataW H) → Nat
  | [] => 0
  | x :: r => uptoBulkEntry x + uptoBulkEntries r
def uptoBulkEntry {H : Type} : Lit × DataW H → Nat
  | (.string bytes, d) => bytes.length + uptoBulk d + 1
  | (_, d) => uptoBulk d + 1
 end
def uptoSmall : (H : Type) → List (DataW H) → Bool := fun _ ds => decide (uptoBulkAll ds ≤ 1048576)
def OpenSpec.upto (s : _root_.Go.ChangeSpec) : _root_.Go.OpenSpec := { _root_.Go.OpenSpec.ofChange s with cond := some uptoSmall }

/-- 'boscagelaw08.WorldBegins', WHERE WHAT IT READS IS OF BULK AT MOST 1048576: true; the input reads as it did. -/
def worldBeginsUptoRow : OpenClaim := { program := "ythkohomogknddaa", sum := "346b3bd7f27e173e1ff1fdeda513098651565f62170556e1ff52fed0ac3c6ff5", func := "boscage/boscagelaw08.WorldBegins", spec := "worldBegins", unfollowed := true, recurses := true, apart := false, narrowed := true }
def WorldBeginsUptoSaid : Prop := worldBeginsUptoRow.holds Try.pinned (OpenSpec.upto worldBeginsSpec)

/-- 'boscagelaw08.WorldEnds', WHERE WHAT IT READS IS OF BULK AT MOST 1048576: true; the input reads as it did. -/
def worldEndsUptoRow : OpenClaim := { program := "ythkohomogknddaa", sum := "346b3bd7f27e173e1ff1fdeda513098651565f62170556e1ff52fed0ac3c6ff5", func := "boscage/boscagelaw08.WorldEnds", spec := "worldEnds", unfollowed := true, recurses := true, apart := false, narrowed := true }
def WorldEndsUptoSaid : Prop := worldEndsUptoRow.holds Try.pinned (OpenSpec.upto worldEndsSpec)

/-- 'boscagelaw08.WorldGrace', WHERE WHAT IT READS IS OF BULK AT MOST 1048576: true; the input reads as it did. -/
def worldGraceUptoRow : OpenClaim := { program := "ythkohomogknddaa", sum := "346b3bd7f27e173e1ff1fdeda513098651565f62170556e1ff52fed0ac3c6ff5", func := "boscage/boscagelaw08.WorldGrace", spec := "worldGrace", unfollowed := true, recurses := true, apart := false, narrowed := true }
def WorldGraceUptoSaid : Prop := worldGraceUptoRow.holds Try.pinned (OpenSpec.upto worldGraceSpec)

/-- 'boscagelaw08.WorldFrees', WHERE WHAT IT READS IS OF BULK AT MOST 1048576: true; the input reads as it did. -/
def worldFreesUptoRow : OpenClaim := { program := "ythkohomogknddaa", sum := "346b3bd7f27e173e1ff1fdeda513098651565f62170556e1ff52fed0ac3c6ff5", func := "boscage/boscagelaw08.WorldFrees", spec := "worldFrees", unfollowed := true, recurses := true, apart := false, narrowed := true }
def WorldFreesUptoSaid : Prop := worldFreesUptoRow.holds Try.pinned (OpenSpec.upto worldFreesSpec)

/-- 'boscagelaw08.WorldMakes', WHERE WHAT IT READS IS OF BULK AT MOST 1048576: true; the input reads as it did. -/
def worldMakesUptoRow : OpenClaim := { program := "ythkohomogknddaa", sum := "346b3bd7f27e173e1ff1fdeda513098651565f62170556e1ff52fed0ac3c6ff5", func := "boscage/boscagelaw08.WorldMakes", spec := "worldMakes", unfollowed := true, recurses := true, apart := false, narrowed := true }
def WorldMakesUptoSaid : Prop := worldMakesUptoRow.holds Try.pinned (OpenSpec.upto worldMakesSpec)

/-- 'boscagelaw08.WorldLeaves', WHERE WHAT IT READS IS OF BULK AT MOST 1048576: true; the input reads as it did. -/
def worldLeavesUptoRow : OpenClaim := { program := "ythkohomogknddaa", sum := "346b3bd7f27e173e1ff1fdeda513098651565f62170556e1ff52fed0ac3c6ff5", func := "boscage/boscagelaw08.WorldLeaves", spec := "worldLeaves", unfollowed := true, recurses := true, apart := false, narrowed := true }
def WorldLeavesUptoSaid : Prop := worldLeavesUptoRow.holds Try.pinned (OpenSpec.upto worldLeavesSpec)

/-- 'boscagelaw08.WorldNew', WHERE WHAT IT READS IS OF BULK AT MOST 1048576: true; the input reads as it did. -/
def worldNewUptoRow : OpenClaim := { program := "ythkohomogknddaa", sum := "346b3bd7f27e173e1ff1fdeda513098651565f62170556e1ff52fed0ac3c6ff5", func := "boscage/boscagelaw08.WorldNew", spec := "worldNew", unfollowed := true, recurses := true, apart := false, narrowed := true }
def WorldNewUptoSaid : Prop := worldNewUptoRow.holds Try.pinned (OpenSpec.upto worldNewSpec)

/-- 'boscagelaw09.HelpRivals', WHERE WHAT IT READS IS OF BULK AT MOST 1048576: true; the input reads as it did. -/
def helpRivalsUptoRow : OpenClaim := { program := "ythkohomogknddaa", sum := "346b3bd7f27e173e1ff1fdeda513098651565f62170556e1ff52fed0ac3c6ff5", func := "boscage/boscagelaw09.HelpRivals", spec := "helpRivals", unfollowed := true, recurses := true, apart := false, narrowed := true }
def HelpRivalsUptoSaid : Prop := helpRivalsUptoRow.holds Try.pinned (OpenSpec.upto helpRivalsSpec)

/-- 'boscagelaw09.HelpAgain', WHERE WHAT IT READS IS OF BULK AT MOST 1048576: true; the input reads as it did. -/
def helpAgainUptoRow : OpenClaim := { program := "ythkohomogknddaa", sum := "346b3bd7f27e173e1ff1fdeda513098651565f62170556e1ff52fed0ac3c6ff5", func := "boscage/boscagelaw09.HelpAgain", spec := "helpAgain", unfollowed := true, recurses := true, apart := false, narrowed := true }
def HelpAgainUptoSaid : Prop := helpAgainUptoRow.holds Try.pinned (OpenSpec.upto helpAgainSpec)

/-- 'boscagelaw09.HelpMany', WHERE WHAT IT READS IS OF BULK AT MOST 1048576: true; the input reads as it did. -/
def helpManyUptoRow : OpenClaim := { program := "ythkohomogknddaa", sum := "346b3bd7f27e173e1ff1fdeda513098651565f62170556e1ff52fed0ac3c6ff5", func := "boscage/boscagelaw09.HelpMany", spec := "helpMany", unfollowed := true, recurses := true, apart := false, narrowed := true }
def HelpManyUptoSaid : Prop := helpManyUptoRow.holds Try.pinned (OpenSpec.upto helpManySpec)

/-- 'boscagelaw09.HelpAlone', WHERE WHAT IT READS IS OF BULK AT MOST 1048576: true; the input reads as it did. -/
def helpAloneUptoRow : OpenClaim := { program := "ythkohomogknddaa", sum := "346b3bd7f27e173e1ff1fdeda513098651565f62170556e1ff52fed0ac3c6ff5", func := "boscage/boscagelaw09.HelpAlone", spec := "helpAlone", unfollowed := true, recurses := true, apart := false, narrowed := true }
def HelpAloneUptoSaid : Prop := helpAloneUptoRow.holds Try.pinned (OpenSpec.upto helpAloneSpec)

/-- 'boscagelaw09.HelpNone', WHERE WHAT IT READS IS OF BULK AT MOST 1048576: true; the input reads as it did. -/
def helpNoneUptoRow : OpenClaim := { program := "ythkohomogknddaa", sum := "346b3bd7f27e173e1ff1fdeda513098651565f62170556e1ff52fed0ac3c6ff5", func := "boscage/boscagelaw09.HelpNone", spec := "helpNone", unfollowed := true, recurses := true, apart := false, narrowed := true }
def HelpNoneUptoSaid : Prop := helpNoneUptoRow.holds Try.pinned (OpenSpec.upto helpNoneSpec)

end Rows
end Go.Proofs.Ythkohomogknddaa
