/-
  No cell of these rows narrows 'for every input' (looked for: loops, veiled, ifaces, maps, wideKeys, modest, calm, conditions, laid).
  DERIVED. THE GIVEN ROWS OF THIS SEAT. 8 by the template 'for every input the law returns true; each argument reads behind the call as it read before'; 0 by the template 'total and deterministic' (their statements: YthafabkjidifeaaTotals.lean).
  GIVEN WITH THE SEED: the statements are not yours to turn. If you find one false, say at which input.
  Laid BY PROGRAM, IN A SANDBOX (cutbox-rows.mjs): the forced cells as the released guide's own fill.sh prints them over the translation a08501e9de72f9ce… (all of the seat's roots in one cut). By AI agents, Wed Nov 11 2026. No macro, syntax, notation, axiom, sorry.
-/
import Derived.Test.YthafabkjidifeaaChecked
import GoSem.Claim
import GoSem.ClaimJoined
import GoSem.ClaimMapViews
import Derived.JoinedTies
import Derived.KernelRfl
namespace Go.Proofs.Ythafabkjidifeaa
/- THE CELL 'sum', in the pinned program and in every row, IS THE sha256 OF THE DUMP (.gsa) THAT YthafabkjidifeaaProg.lean LOADS. Nothing in Lean hashes anything: it is a label: what it is worth is what the hold of that sum in a sandbox is worth. -/
noncomputable def Try.pinned : Pinned := { name := "ythafabkjidifeaa", sum := "a08501e9de72f9cedf9e3d0357002509297d96c774018daa3aca034a7dcab37e", checked := Try.checked }
namespace Rows
def none {H : Type} : Left H := { results := [], args := [] }

/-- 'ontimelaw36.IlpSolves': WHATEVER THE INPUT: true; the input reads as it did. -/
def ilpSolvesSpec : ChangeSpec := { name := "ilpSolves", fn := fun _ => fun
  | [d] => { results := [.lit (.bool true)], args := [d] }
  | _ => none }
def ilpSolvesRow : OpenClaim := { program := "ythafabkjidifeaa", sum := "a08501e9de72f9cedf9e3d0357002509297d96c774018daa3aca034a7dcab37e", func := "ontime/ontimelaw36.IlpSolves", spec := "ilpSolves", unfollowed := true, recurses := true, apart := false }
def IlpSolvesSaid : Prop := ilpSolvesRow.holds Try.pinned (OpenSpec.ofChange ilpSolvesSpec)

/-- ITS FALSE NEIGHBOUR: 'it returns false'. Refute it at one input. -/
def ilpSolvesWrong : ChangeSpec := { name := "ilpSolves", fn := fun _ => fun
  | [d] => { results := [.lit (.bool false)], args := [d] }
  | _ => none }
def IlpSolvesWrongFalsely : Prop := ilpSolvesRow.holds Try.pinned (OpenSpec.ofChange ilpSolvesWrong)

/-- 'ontimelaw36.IlpNodes': WHATEVER THE INPUT: true; the input reads as it did. -/
def ilpNodesSpec : ChangeSpec := { name := "ilpNodes", fn := fun _ => fun
  | [d1, d2] => { results := [.lit (.bool true)], args := [d1, d2] }
  | _ => none }
def ilpNodesRow : OpenClaim := { program := "ythafabkjidifeaa", sum := "a08501e9de72f9cedf9e3d0357002509297d96c774018daa3aca034a7dcab37e", func := "ontime/ontimelaw36.IlpNodes", spec := "ilpNodes", unfollowed := true, recurses := true, apart := false }
def IlpNodesSaid : Prop := ilpNodesRow.holds Try.pinned (OpenSpec.ofChange ilpNodesSpec)

/-- ITS FALSE NEIGHBOUR: 'it returns false'. Refute it at one input. -/
def ilpNodesWrong : ChangeSpec := { name := "ilpNodes", fn := fun _ => fun
  | [d1, d2] => { results := [.lit (.bool false)], args := [d1, d2] }
  | _ => none }
def IlpNodesWrongFalsely : Prop := ilpNodesRow.holds Try.pinned (OpenSpec.ofChange ilpNodesWrong)

/-- 'ontimelaw36.IlpRows': WHATEVER THE INPUT: true; the input reads as it did. -/
def ilpRowsSpec : ChangeSpec := { name := "ilpRows", fn := fun _ => fun
  | [d1, d2, d3] => { results := [.lit (.bool true)], args := [d1, d2, d3] }
  | _ => none }
def ilpRowsRow : OpenClaim := { program := "ythafabkjidifeaa", sum := "a08501e9de72f9cedf9e3d0357002509297d96c774018daa3aca034a7dcab37e", func := "ontime/ontimelaw36.IlpRows", spec := "ilpRows", unfollowed := true, recurses := true, apart := false }
def IlpRowsSaid : Prop := ilpRowsRow.holds Try.pinned (OpenSpec.ofChange ilpRowsSpec)

/-- ITS FALSE NEIGHBOUR: 'it returns false'. Refute it at one input. -/
def ilpRowsWrong : ChangeSpec := { name := "ilpRows", fn := fun _ => fun
  | [d1, d2, d3] => { results := [.lit (.bool false)], args := [d1, d2, d3] }
  | _ => none }
def IlpRowsWrongFalsely : Prop := ilpRowsRow.holds Try.pinned (OpenSpec.ofChange ilpRowsWrong)

/-- 'ontimelaw36.IlpErrors': WHATEVER THE INPUT: true; the input reads as it did. -/
def ilpErrorsSpec : ChangeSpec := { name := "ilpErrors", fn := fun _ => fun
  | [d1, d2] => { results := [.lit (.bool true)], args := [d1, d2] }
  | _ => none }
def ilpErrorsRow : OpenClaim := { program := "ythafabkjidifeaa", sum := "a08501e9de72f9cedf9e3d0357002509297d96c774018daa3aca034a7dcab37e", func := "ontime/ontimelaw36.IlpErrors", spec := "ilpErrors", unfollowed := true, recurses := true, apart := false }
def IlpErrorsSaid : Prop := ilpErrorsRow.holds Try.pinned (OpenSpec.ofChange ilpErrorsSpec)

/-- ITS FALSE NEIGHBOUR: 'it returns false'. Refute it at one input. -/
def ilpErrorsWrong : ChangeSpec := { name := "ilpErrors", fn := fun _ => fun
  | [d1, d2] => { results := [.lit (.bool false)], args := [d1, d2] }
  | _ => none }
def IlpErrorsWrongFalsely : Prop := ilpErrorsRow.holds Try.pinned (OpenSpec.ofChange ilpErrorsWrong)

/-- 'ontimelaw36.IlpProves': WHATEVER THE INPUT: true; the input reads as it did. -/
def ilpProvesSpec : ChangeSpec := { name := "ilpProves", fn := fun _ => fun
  | [d] => { results := [.lit (.bool true)], args := [d] }
  | _ => none }
def ilpProvesRow : OpenClaim := { program := "ythafabkjidifeaa", sum := "a08501e9de72f9cedf9e3d0357002509297d96c774018daa3aca034a7dcab37e", func := "ontime/ontimelaw36.IlpProves", spec := "ilpProves", unfollowed := true, recurses := true, apart := false }
def IlpProvesSaid : Prop := ilpProvesRow.holds Try.pinned (OpenSpec.ofChange ilpProvesSpec)

/-- ITS FALSE NEIGHBOUR: 'it returns false'. Refute it at one input. -/
def ilpProvesWrong : ChangeSpec := { name := "ilpProves", fn := fun _ => fun
  | [d] => { results := [.lit (.bool false)], args := [d] }
  | _ => none }
def IlpProvesWrongFalsely : Prop := ilpProvesRow.holds Try.pinned (OpenSpec.ofChange ilpProvesWrong)

/-- 'ontimelaw36.IlpBranches': WHATEVER THE INPUT: true; the input reads as it did. -/
def ilpBranchesSpec : ChangeSpec := { name := "ilpBranches", fn := fun _ => fun
  | [d1, d2, d3, d4] => { results := [.lit (.bool true)], args := [d1, d2, d3, d4] }
  | _ => none }
def ilpBranchesRow : OpenClaim := { program := "ythafabkjidifeaa", sum := "a08501e9de72f9cedf9e3d0357002509297d96c774018daa3aca034a7dcab37e", func := "ontime/ontimelaw36.IlpBranches", spec := "ilpBranches", unfollowed := true, recurses := true, apart := false }
def IlpBranchesSaid : Prop := ilpBranchesRow.holds Try.pinned (OpenSpec.ofChange ilpBranchesSpec)

/-- ITS FALSE NEIGHBOUR: 'it returns false'. Refute it at one input. -/
def ilpBranchesWrong : ChangeSpec := { name := "ilpBranches", fn := fun _ => fun
  | [d1, d2, d3, d4] => { results := [.lit (.bool false)], args := [d1, d2, d3, d4] }
  | _ => none }
def IlpBranchesWrongFalsely : Prop := ilpBranchesRow.holds Try.pinned (OpenSpec.ofChange ilpBranchesWrong)

/-- 'ontimelaw36.IlpPoint': WHATEVER THE INPUT: true; the input reads as it did. -/
def ilpPointSpec : ChangeSpec := { name := "ilpPoint", fn := fun _ => fun
  | [d] => { results := [.lit (.bool true)], args := [d] }
  | _ => none }
def ilpPointRow : OpenClaim := { program := "ythafabkjidifeaa", sum := "a08501e9de72f9cedf9e3d0357002509297d96c774018daa3aca034a7dcab37e", func := "ontime/ontimelaw36.IlpPoint", spec := "ilpPoint", unfollowed := true, recurses := true, apart := false }
def IlpPointSaid : Prop := ilpPointRow.holds Try.pinned (OpenSpec.ofChange ilpPointSpec)

/-- ITS FALSE NEIGHBOUR: 'it returns false'. Refute it at one input. -/
def ilpPointWrong : ChangeSpec := { name := "ilpPoint", fn := fun _ => fun
  | [d] => { results := [.lit (.bool false)], args := [d] }
  | _ => none }
def IlpPointWrongFalsely : Prop := ilpPointRow.holds Try.pinned (OpenSpec.ofChange ilpPointWrong)

/-- 'ontimelaw36.IlpDivides': WHATEVER THE INPUT: true; the input reads as it did. -/
def ilpDividesSpec : ChangeSpec := { name := "ilpDivides", fn := fun _ => fun
  | [d1, d2, d3, d4] => { results := [.lit (.bool true)], args := [d1, d2, d3, d4] }
  | _ => none }
def ilpDividesRow : OpenClaim := { program := "ythafabkjidifeaa", sum := "a08501e9de72f9cedf9e3d0357002509297d96c774018daa3aca034a7dcab37e", func := "ontime/ontimelaw36.IlpDivides", spec := "ilpDivides", unfollowed := true, recurses := true, apart := false }
def IlpDividesSaid : Prop := ilpDividesRow.holds Try.pinned (OpenSpec.ofChange ilpDividesSpec)

/-- ITS FALSE NEIGHBOUR: 'it returns false'. Refute it at one input. -/
def ilpDividesWrong : ChangeSpec := { name := "ilpDivides", fn := fun _ => fun
  | [d1, d2, d3, d4] => { results := [.lit (.bool false)], args := [d1, d2, d3, d4] }
  | _ => none }
def IlpDividesWrongFalsely : Prop := ilpDividesRow.holds Try.pinned (OpenSpec.ofChange ilpDividesWrong)

/- THE SECOND FORM. 'bulk': how many values and letters a reading holds, each counted each time it is reached (what is shared counts as often as it is met; a slice's spare places count too). A statement '..UptoSaid' is the law's where the arguments, and the package variables that the reading takes, are together of bulk at most 1048576: NARROWER than '..Said'. Prove '..Said' where nothing that the law and all that it calls make is longer than what came in: it says more and counts as full. Else prove '..UptoSaid'. A law counts once. -/
mutual
def uptoBulk {H : Type} : DataW H → Nat
  | .lit (.string bytes) => bytes.length + 1
  | .lit _ => 1
  | .nil => 1
  | .ptr d => uptoBulk d + 1
  | .slice elems spare => uptoBulkAll elems + uptoBulkAll spare + 1
  | .agg parts => uptoBulkAll parts + 1
  | .iface _ d => uptoBulk d + 1
  | .map entries => uptoBulkEntries entries + 1
  | .held _ => 1
def uptoBulkAll {H : Type} : List (DataW H) → Nat
  | [] => 0
  | d :: r => uptoBulk d + uptoBulkAll r
def uptoBulkEntries {H : Type} : List (Lit × DataW H) → Nat
  | [] => 0
  | x :: r => uptoBulkEntry x + uptoBulkEntries r
def uptoBulkEntry {H : Type} : Lit × DataW H → Nat
  | (.string bytes, d) => bytes.length + uptoBulk d + 1
  | (_, d) => uptoBulk d + 1
 end
def uptoSmall : (H : Type) → List (DataW H) → Bool := fun _ ds => decide (uptoBulkAll ds ≤ 1048576)
def OpenSpec.upto (s : _root_.Go.ChangeSpec) : _root_.Go.OpenSpec := { _root_.Go.OpenSpec.ofChange s with cond := some uptoSmall }

/-- 'ontimelaw36.IlpSolves', WHERE WHAT IT READS IS OF BULK AT MOST 1048576: true; the input reads as it did. -/
def ilpSolvesUptoRow : OpenClaim := { program := "ythafabkjidifeaa", sum := "a08501e9de72f9cedf9e3d0357002509297d96c774018daa3aca034a7dcab37e", func := "ontime/ontimelaw36.IlpSolves", spec := "ilpSolves", unfollowed := true, recurses := true, apart := false, narrowed := true }
def IlpSolvesUptoSaid : Prop := ilpSolvesUptoRow.holds Try.pinned (OpenSpec.upto ilpSolvesSpec)

/-- 'ontimelaw36.IlpNodes', WHERE WHAT IT READS IS OF BULK AT MOST 1048576: true; the input reads as it did. -/
def ilpNodesUptoRow : OpenClaim := { program := "ythafabkjidifeaa", sum := "a08501e9de72f9cedf9e3d0357002509297d96c774018daa3aca034a7dcab37e", func := "ontime/ontimelaw36.IlpNodes", spec := "ilpNodes", unfollowed := true, recurses := true, apart := false, narrowed := true }
def IlpNodesUptoSaid : Prop := ilpNodesUptoRow.holds Try.pinned (OpenSpec.upto ilpNodesSpec)

/-- 'ontimelaw36.IlpRows', WHERE WHAT IT READS IS OF BULK AT MOST 1048576: true; the input reads as it did. -/
def ilpRowsUptoRow : OpenClaim := { program := "ythafabkjidifeaa", sum := "a08501e9de72f9cedf9e3d0357002509297d96c774018daa3aca034a7dcab37e", func := "ontime/ontimelaw36.IlpRows", spec := "ilpRows", unfollowed := true, recurses := true, apart := false, narrowed := true }
def IlpRowsUptoSaid : Prop := ilpRowsUptoRow.holds Try.pinned (OpenSpec.upto ilpRowsSpec)

/-- 'ontimelaw36.IlpErrors', WHERE WHAT IT READS IS OF BULK AT MOST 1048576: true; the input reads as it did. -/
def ilpErrorsUptoRow : OpenClaim := { program := "ythafabkjidifeaa", sum := "a08501e9de72f9cedf9e3d0357002509297d96c774018daa3aca034a7dcab37e", func := "ontime/ontimelaw36.IlpErrors", spec := "ilpErrors", unfollowed := true, recurses := true, apart := false, narrowed := true }
def IlpErrorsUptoSaid : Prop := ilpErrorsUptoRow.holds Try.pinned (OpenSpec.upto ilpErrorsSpec)

/-- 'ontimelaw36.IlpProves', WHERE WHAT IT READS IS OF BULK AT MOST 1048576: true; the input reads as it did. -/
def ilpProvesUptoRow : OpenClaim := { program := "ythafabkjidifeaa", sum := "a08501e9de72f9cedf9e3d0357002509297d96c774018daa3aca034a7dcab37e", func := "ontime/ontimelaw36.IlpProves", spec := "ilpProves", unfollowed := true, recurses := true, apart := false, narrowed := true }
def IlpProvesUptoSaid : Prop := ilpProvesUptoRow.holds Try.pinned (OpenSpec.upto ilpProvesSpec)

/-- 'ontimelaw36.IlpBranches', WHERE WHAT IT READS IS OF BULK AT MOST 1048576: true; the input reads as it did. -/
def ilpBranchesUptoRow : OpenClaim := { program := "ythafabkjidifeaa", sum := "a08501e9de72f9cedf9e3d0357002509297d96c774018daa3aca034a7dcab37e", func := "ontime/ontimelaw36.IlpBranches", spec := "ilpBranches", unfollowed := true, recurses := true, apart := false, narrowed := true }
def IlpBranchesUptoSaid : Prop := ilpBranchesUptoRow.holds Try.pinned (OpenSpec.upto ilpBranchesSpec)

/-- 'ontimelaw36.IlpPoint', WHERE WHAT IT READS IS OF BULK AT MOST 1048576: true; the input reads as it did. -/
def ilpPointUptoRow : OpenClaim := { program := "ythafabkjidifeaa", sum := "a08501e9de72f9cedf9e3d0357002509297d96c774018daa3aca034a7dcab37e", func := "ontime/ontimelaw36.IlpPoint", spec := "ilpPoint", unfollowed := true, recurses := true, apart := false, narrowed := true }
def IlpPointUptoSaid : Prop := ilpPointUptoRow.holds Try.pinned (OpenSpec.upto ilpPointSpec)

/-- 'ontimelaw36.IlpDivides', WHERE WHAT IT READS IS OF BULK AT MOST 1048576: true; the input reads as it did. -/
def ilpDividesUptoRow : OpenClaim := { program := "ythafabkjidifeaa", sum := "a08501e9de72f9cedf9e3d0357002509297d96c774018daa3aca034a7dcab37e", func := "ontime/ontimelaw36.IlpDivides", spec := "ilpDivides", unfollowed := true, recurses := true, apart := false, narrowed := true }
def IlpDividesUptoSaid : Prop := ilpDividesUptoRow.holds Try.pinned (OpenSpec.upto ilpDividesSpec)

end Rows
end Go.Proofs.Ythafabkjidifeaa
