/- The cells of a node. -/
import Derived.Test.YtljncdcjkdgkeaaGreatDoorMem2
set_option linter.unusedVariables false
set_option linter.unusedSimpArgs false
namespace Go.Proofs.YtljncdcjkdgkeaaGreatDoor.Lp
open Go.RowKit
/-- a node in memory -/
def NodeC (vr fl : Int) (lo hi : Option Addr) (em : Bool) (A : Option Addr) (n c : Nat) : Array Value := #[.int .i64 vr, .int .i64 fl, .pointer lo, .pointer hi, .bool em, .slice A n c]
end Go.Proofs.YtljncdcjkdgkeaaGreatDoor.Lp
