/-
  No cell of these rows narrows 'for every input' (looked for: loops, veiled, ifaces, maps, wideKeys, modest, calm, conditions, laid).
  DERIVED. THE GIVEN ROWS OF THIS SEAT. 8 by the template 'for every input the law returns true; each argument reads behind the call as it read before'; 0 by the template 'total and deterministic' (their statements: YtkbnoceekileiaaTotals.lean).
  GIVEN WITH THE SEED: the statements are not yours to turn. If you find one false, say at which input.
  Laid BY PROGRAM, IN A SANDBOX (cutbox-rows.mjs): the forced cells as the released guide's own fill.sh prints them over the translation 25a0f7712b441478… (all of the seat's roots in one cut). By AI agents, Wed Nov 11 2026. No macro, syntax, notation, axiom, sorry.
-/
import Derived.Test.YtkbnoceekileiaaChecked
import GoSem.Claim
import GoSem.ClaimJoined
import GoSem.ClaimMapViews
import Derived.JoinedTies
import Derived.KernelRfl
namespace Go.Proofs.Ytkbnoceekileiaa
/- THE CELL 'sum', in the pinned program and in every row, IS THE sha256 OF THE DUMP (.gsa) THAT YtkbnoceekileiaaProg.lean LOADS. Nothing in Lean hashes anything: it is a label: what it is worth is what the hold of that sum in a sandbox is worth. -/
noncomputable def Try.pinned : Pinned := { name := "ytkbnoceekileiaa", sum := "25a0f7712b4414781c7610cf0c8a61160f316f59fde816f4412a9b540af3f760", checked := Try.checked }
namespace Rows
def none {H : Type} : Left H := { results := [], args := [] }

/-- 'boscagelaw21.AuditReads': WHATEVER THE INPUT: true; the input reads as it did. -/
def auditReadsSpec : ChangeSpec := { name := "auditReads", fn := fun _ => fun
  | [d1, d2, d3] => { results := [.lit (.bool true)], args := [d1, d2, d3] }
  | _ => none }
def auditReadsRow : OpenClaim := { program := "ytkbnoceekileiaa", sum := "25a0f7712b4414781c7610cf0c8a61160f316f59fde816f4412a9b540af3f760", func := "boscage/boscagelaw21.AuditReads", spec := "auditReads", recurses := true, apart := false }
def AuditReadsSaid : Prop := auditReadsRow.holds Try.pinned (OpenSpec.ofChange auditReadsSpec)

/-- ITS FALSE NEIGHBOUR: 'it returns false'. Refute it at one input. -/
def auditReadsWrong : ChangeSpec := { name := "auditReads", fn := fun _ => fun
  | [d1, d2, d3] => { results := [.lit (.bool false)], args := [d1, d2, d3] }
  | _ => none }
def AuditReadsWrongFalsely : Prop := auditReadsRow.holds Try.pinned (OpenSpec.ofChange auditReadsWrong)

/-- 'boscagelaw21.AuditEven': WHATEVER THE INPUT: true; the input reads as it did. -/
def auditEvenSpec : ChangeSpec := { name := "auditEven", fn := fun _ => fun
  | [d1, d2] => { results := [.lit (.bool true)], args := [d1, d2] }
  | _ => none }
def auditEvenRow : OpenClaim := { program := "ytkbnoceekileiaa", sum := "25a0f7712b4414781c7610cf0c8a61160f316f59fde816f4412a9b540af3f760", func := "boscage/boscagelaw21.AuditEven", spec := "auditEven", recurses := true, apart := false }
def AuditEvenSaid : Prop := auditEvenRow.holds Try.pinned (OpenSpec.ofChange auditEvenSpec)

/-- ITS FALSE NEIGHBOUR: 'it returns false'. Refute it at one input. -/
def auditEvenWrong : ChangeSpec := { name := "auditEven", fn := fun _ => fun
  | [d1, d2] => { results := [.lit (.bool false)], args := [d1, d2] }
  | _ => none }
def AuditEvenWrongFalsely : Prop := auditEvenRow.holds Try.pinned (OpenSpec.ofChange auditEvenWrong)

/-- 'boscagelaw21.AuditOdd': WHATEVER THE INPUT: true; the input reads as it did. -/
def auditOddSpec : ChangeSpec := { name := "auditOdd", fn := fun _ => fun
  | [d1, d2, d3] => { results := [.lit (.bool true)], args := [d1, d2, d3] }
  | _ => none }
def auditOddRow : OpenClaim := { program := "ytkbnoceekileiaa", sum := "25a0f7712b4414781c7610cf0c8a61160f316f59fde816f4412a9b540af3f760", func := "boscage/boscagelaw21.AuditOdd", spec := "auditOdd", recurses := true, apart := false }
def AuditOddSaid : Prop := auditOddRow.holds Try.pinned (OpenSpec.ofChange auditOddSpec)

/-- ITS FALSE NEIGHBOUR: 'it returns false'. Refute it at one input. -/
def auditOddWrong : ChangeSpec := { name := "auditOdd", fn := fun _ => fun
  | [d1, d2, d3] => { results := [.lit (.bool false)], args := [d1, d2, d3] }
  | _ => none }
def AuditOddWrongFalsely : Prop := auditOddRow.holds Try.pinned (OpenSpec.ofChange auditOddWrong)

/-- 'boscagelaw21.AuditNil': WHATEVER THE INPUT: true; the input reads as it did. -/
def auditNilSpec : ChangeSpec := { name := "auditNil", fn := fun _ => fun
  | [d] => { results := [.lit (.bool true)], args := [d] }
  | _ => none }
def auditNilRow : OpenClaim := { program := "ytkbnoceekileiaa", sum := "25a0f7712b4414781c7610cf0c8a61160f316f59fde816f4412a9b540af3f760", func := "boscage/boscagelaw21.AuditNil", spec := "auditNil", recurses := true, apart := false }
def AuditNilSaid : Prop := auditNilRow.holds Try.pinned (OpenSpec.ofChange auditNilSpec)

/-- ITS FALSE NEIGHBOUR: 'it returns false'. Refute it at one input. -/
def auditNilWrong : ChangeSpec := { name := "auditNil", fn := fun _ => fun
  | [d] => { results := [.lit (.bool false)], args := [d] }
  | _ => none }
def AuditNilWrongFalsely : Prop := auditNilRow.holds Try.pinned (OpenSpec.ofChange auditNilWrong)

/-- 'boscagelaw20.LoadOrder': WHATEVER THE INPUT: true; the input reads as it did. -/
def loadOrderSpec : ChangeSpec := { name := "loadOrder", fn := fun _ => fun
  | [d1, d2] => { results := [.lit (.bool true)], args := [d1, d2] }
  | _ => none }
def loadOrderRow : OpenClaim := { program := "ytkbnoceekileiaa", sum := "25a0f7712b4414781c7610cf0c8a61160f316f59fde816f4412a9b540af3f760", func := "boscage/boscagelaw20.LoadOrder", spec := "loadOrder", recurses := true, apart := false }
def LoadOrderSaid : Prop := loadOrderRow.holds Try.pinned (OpenSpec.ofChange loadOrderSpec)

/-- ITS FALSE NEIGHBOUR: 'it returns false'. Refute it at one input. -/
def loadOrderWrong : ChangeSpec := { name := "loadOrder", fn := fun _ => fun
  | [d1, d2] => { results := [.lit (.bool false)], args := [d1, d2] }
  | _ => none }
def LoadOrderWrongFalsely : Prop := loadOrderRow.holds Try.pinned (OpenSpec.ofChange loadOrderWrong)

/-- 'boscagelaw20.LoadRoom': WHATEVER THE INPUT: true; the input reads as it did. -/
def loadRoomSpec : ChangeSpec := { name := "loadRoom", fn := fun _ => fun
  | [d1, d2, d3] => { results := [.lit (.bool true)], args := [d1, d2, d3] }
  | _ => none }
def loadRoomRow : OpenClaim := { program := "ytkbnoceekileiaa", sum := "25a0f7712b4414781c7610cf0c8a61160f316f59fde816f4412a9b540af3f760", func := "boscage/boscagelaw20.LoadRoom", spec := "loadRoom", recurses := true, apart := false }
def LoadRoomSaid : Prop := loadRoomRow.holds Try.pinned (OpenSpec.ofChange loadRoomSpec)

/-- ITS FALSE NEIGHBOUR: 'it returns false'. Refute it at one input. -/
def loadRoomWrong : ChangeSpec := { name := "loadRoom", fn := fun _ => fun
  | [d1, d2, d3] => { results := [.lit (.bool false)], args := [d1, d2, d3] }
  | _ => none }
def LoadRoomWrongFalsely : Prop := loadRoomRow.holds Try.pinned (OpenSpec.ofChange loadRoomWrong)

/-- 'boscagelaw20.LoadNone': WHATEVER THE INPUT: true; the input reads as it did. -/
def loadNoneSpec : ChangeSpec := { name := "loadNone", fn := fun _ => fun
  | [d1, d2] => { results := [.lit (.bool true)], args := [d1, d2] }
  | _ => none }
def loadNoneRow : OpenClaim := { program := "ytkbnoceekileiaa", sum := "25a0f7712b4414781c7610cf0c8a61160f316f59fde816f4412a9b540af3f760", func := "boscage/boscagelaw20.LoadNone", spec := "loadNone", recurses := true, apart := false }
def LoadNoneSaid : Prop := loadNoneRow.holds Try.pinned (OpenSpec.ofChange loadNoneSpec)

/-- ITS FALSE NEIGHBOUR: 'it returns false'. Refute it at one input. -/
def loadNoneWrong : ChangeSpec := { name := "loadNone", fn := fun _ => fun
  | [d1, d2] => { results := [.lit (.bool false)], args := [d1, d2] }
  | _ => none }
def LoadNoneWrongFalsely : Prop := loadNoneRow.holds Try.pinned (OpenSpec.ofChange loadNoneWrong)

/-- 'boscagelaw20.LoadLoads': WHATEVER THE INPUT: true; the input reads as it did. -/
def loadLoadsSpec : ChangeSpec := { name := "loadLoads", fn := fun _ => fun
  | [d1, d2] => { results := [.lit (.bool true)], args := [d1, d2] }
  | _ => none }
def loadLoadsRow : OpenClaim := { program := "ytkbnoceekileiaa", sum := "25a0f7712b4414781c7610cf0c8a61160f316f59fde816f4412a9b540af3f760", func := "boscage/boscagelaw20.LoadLoads", spec := "loadLoads", recurses := true, apart := false }
def LoadLoadsSaid : Prop := loadLoadsRow.holds Try.pinned (OpenSpec.ofChange loadLoadsSpec)

/-- ITS FALSE NEIGHBOUR: 'it returns false'. Refute it at one input. -/
def loadLoadsWrong : ChangeSpec := { name := "loadLoads", fn := fun _ => fun
  | [d1, d2] => { results := [.lit (.bool false)], args := [d1, d2] }
  | _ => none }
def LoadLoadsWrongFalsely : Prop := loadLoadsRow.holds Try.pinned (OpenSpec.ofChange loadLoadsWrong)

/- THE SECOND FORM. 'bulk': how many values and letters a reading holds, each counted each time it is reached (what is shared counts as often as it is met; a slice's spare places count too). A statement '..UptoSaid' is the law's where the arguments, and the package variables that the reading takes, are together of bulk at most 1048576: NARROWER than '..Said'. Prove '..Said' where nothing that the law and all that it calls make is longer than what came in: it says more and counts as full. Else prove '..UptoSaid'. A law counts once. -/
mutual
def uptoBulk {H : Type} : DataW H → Nat
  | .lit (.string bytes) => bytes.length + 1
  | .lit _ => 1
  | .nil => 1
  | .ptr d => uptoBulk d + 1
  | .slice elems spare => uptoBulkAll elems + uptoBulkAll spare + 1
  | .agg parts => uptoBulkAll parts + 1
  | .iface _ d => uptoBulk d + 1
  | .map entries => uptoBulkEntries entries + 1
  | .held _ => 1
def uptoBulkAll {H : Type} : List (DataW H) → Nat
  | [] => 0
  | d :: r => uptoBulk d + uptoBulkAll r
def uptoBulkEntries {H : Type} : List (Lit × DataW H) → Nat
  | [] => 0
  | x :: r => uptoBulkEntry x + uptoBulkEntries r
def uptoBulkEntry {H : Type} : Lit × DataW H → Nat
  | (.string bytes, d) => bytes.length + uptoBulk d + 1
  | (_, d) => uptoBulk d + 1
 end
def uptoSmall : (H : Type) → List (DataW H) → Bool := fun _ ds => decide (uptoBulkAll ds ≤ 1048576)
def OpenSpec.upto (s : _root_.Go.ChangeSpec) : _root_.Go.OpenSpec := { _root_.Go.OpenSpec.ofChange s with cond := some uptoSmall }

/-- 'boscagelaw21.AuditReads', WHERE WHAT IT READS IS OF BULK AT MOST 1048576: true; the input reads as it did. -/
def auditReadsUptoRow : OpenClaim := { program := "ytkbnoceekileiaa", sum := "25a0f7712b4414781c7610cf0c8a61160f316f59fde816f4412a9b540af3f760", func := "boscage/boscagelaw21.AuditReads", spec := "auditReads", recurses := true, apart := false, narrowed := true }
def AuditReadsUptoSaid : Prop := auditReadsUptoRow.holds Try.pinned (OpenSpec.upto auditReadsSpec)

/-- 'boscagelaw21.AuditEven', WHERE WHAT IT READS IS OF BULK AT MOST 1048576: true; the input reads as it did. -/
def auditEvenUptoRow : OpenClaim := { program := "ytkbnoceekileiaa", sum := "25a0f7712b4414781c7610cf0c8a61160f316f59fde816f4412a9b540af3f760", func := "boscage/boscagelaw21.AuditEven", spec := "auditEven", recurses := true, apart := false, narrowed := true }
def AuditEvenUptoSaid : Prop := auditEvenUptoRow.holds Try.pinned (OpenSpec.upto auditEvenSpec)

/-- 'boscagelaw21.AuditOdd', WHERE WHAT IT READS IS OF BULK AT MOST 1048576: true; the input reads as it did. -/
def auditOddUptoRow : OpenClaim := { program := "ytkbnoceekileiaa", sum := "25a0f7712b4414781c7610cf0c8a61160f316f59fde816f4412a9b540af3f760", func := "boscage/boscagelaw21.AuditOdd", spec := "auditOdd", recurses := true, apart := false, narrowed := true }
def AuditOddUptoSaid : Prop := auditOddUptoRow.holds Try.pinned (OpenSpec.upto auditOddSpec)

/-- 'boscagelaw21.AuditNil', WHERE WHAT IT READS IS OF BULK AT MOST 1048576: true; the input reads as it did. -/
def auditNilUptoRow : OpenClaim := { program := "ytkbnoceekileiaa", sum := "25a0f7712b4414781c7610cf0c8a61160f316f59fde816f4412a9b540af3f760", func := "boscage/boscagelaw21.AuditNil", spec := "auditNil", recurses := true, apart := false, narrowed := true }
def AuditNilUptoSaid : Prop := auditNilUptoRow.holds Try.pinned (OpenSpec.upto auditNilSpec)

/-- 'boscagelaw20.LoadOrder', WHERE WHAT IT READS IS OF BULK AT MOST 1048576: true; the input reads as it did. -/
def loadOrderUptoRow : OpenClaim := { program := "ytkbnoceekileiaa", sum := "25a0f7712b4414781c7610cf0c8a61160f316f59fde816f4412a9b540af3f760", func := "boscage/boscagelaw20.LoadOrder", spec := "loadOrder", recurses := true, apart := false, narrowed := true }
def LoadOrderUptoSaid : Prop := loadOrderUptoRow.holds Try.pinned (OpenSpec.upto loadOrderSpec)

/-- 'boscagelaw20.LoadRoom', WHERE WHAT IT READS IS OF BULK AT MOST 1048576: true; the input reads as it did. -/
def loadRoomUptoRow : OpenClaim := { program := "ytkbnoceekileiaa", sum := "25a0f7712b4414781c7610cf0c8a61160f316f59fde816f4412a9b540af3f760", func := "boscage/boscagelaw20.LoadRoom", spec := "loadRoom", recurses := true, apart := false, narrowed := true }
def LoadRoomUptoSaid : Prop := loadRoomUptoRow.holds Try.pinned (OpenSpec.upto loadRoomSpec)

/-- 'boscagelaw20.LoadNone', WHERE WHAT IT READS IS OF BULK AT MOST 1048576: true; the input reads as it did. -/
def loadNoneUptoRow : OpenClaim := { program := "ytkbnoceekileiaa", sum := "25a0f7712b4414781c7610cf0c8a61160f316f59fde816f4412a9b540af3f760", func := "boscage/boscagelaw20.LoadNone", spec := "loadNone", recurses := true, apart := false, narrowed := true }
def LoadNoneUptoSaid : Prop := loadNoneUptoRow.holds Try.pinned (OpenSpec.upto loadNoneSpec)

/-- 'boscagelaw20.LoadLoads', WHERE WHAT IT READS IS OF BULK AT MOST 1048576: true; the input reads as it did. -/
def loadLoadsUptoRow : OpenClaim := { program := "ytkbnoceekileiaa", sum := "25a0f7712b4414781c7610cf0c8a61160f316f59fde816f4412a9b540af3f760", func := "boscage/boscagelaw20.LoadLoads", spec := "loadLoads", recurses := true, apart := false, narrowed := true }
def LoadLoadsUptoSaid : Prop := loadLoadsUptoRow.holds Try.pinned (OpenSpec.upto loadLoadsSpec)

end Rows
end Go.Proofs.Ytkbnoceekileiaa
