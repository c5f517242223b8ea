/- A block, a loop's body of a function's code, found by its number, so that a proof can speak of it alone. No condition. -/
import Derived.Test.YtnoioldbddjkiaaRows
namespace Go.Proofs.Ytnoioldbddjkiaa
open Go
/-- The block of this number. -/
def findBlock (n : Nat) : Code → Option Code
  | .block i c => if i = n then some (.block i c) else findBlock n c
  | .loop c => findBlock n c
  | .seq a b => match findBlock n a with
    | some c => some c
    | none => findBlock n b
  | .scope c => findBlock n c
  | .cond _ a b => match findBlock n a with
    | some c => some c
    | none => findBlock n b
  | _ => none
end Go.Proofs.Ytnoioldbddjkiaa
