/-
  NARROWER THAN 'FOR EVERY INPUT', by the rows' own cells (each row's printed sentence says how): LpInfeasible: laid · LpUnbounded: laid · LpSmall: laid · LpPermutes: laid · LpScales: laid · LpMore: laid · LpDual: laid · LpBox: laid · LpValues: laid · LpOptimal: laid · LpFeasible: laid.
  DERIVED. THE GIVEN ROWS OF THIS SEAT. 11 by the template 'for every input the law returns true; each argument reads behind the call as it read before'; 0 by the template 'total and deterministic' (their statements: YtgffcblldebelaaDoorTotals.lean).
  GIVEN WITH THE SEED: the statements are not yours to turn. If you find one false, say at which input.
  Laid BY PROGRAM, IN A SANDBOX (cutbox-rows.mjs): the forced cells as the released guide's own fill.sh prints them over the translation a5f8ad79fca3b376… (all of the seat's roots in one cut). By AI agents, Wed Nov 11 2026. No macro, syntax, notation, axiom, sorry.
-/
import Derived.Test.YtgffcblldebelaaDoorChecked
import GoSem.Claim
import GoSem.ClaimJoined
import GoSem.ClaimMapViews
import Derived.JoinedTies
import Derived.KernelRfl
namespace Go.Proofs.YtgffcblldebelaaDoor
/- THE CELL 'sum', in the pinned program and in every row, IS THE sha256 OF THE DUMP (.gsa) THAT YtgffcblldebelaaDoorProg.lean LOADS. Nothing in Lean hashes anything: it is a label: what it is worth is what the hold of that sum in a sandbox is worth. -/
noncomputable def Tryd.pinned : Pinned := { name := "ytgffcblldebelaadoor", sum := "a5f8ad79fca3b3761d637f0e4455a84b35a0cc7890d7f38a1bd30d0bfd085663", checked := Tryd.checked }
namespace Rows
def none {H : Type} : Left H := { results := [], args := [] }

/- WHAT THE LISTED PACKAGE-LEVEL VARIABLES READ AS WHEN THE CALL BEGINS. Each datum BY PROGRAM (the guide's laid-datum.mjs) off the statement by which the dump's own 'gosem.cut.vars' lays the variable. In a bare row this is a premise. The card (YtgffcblldebelaaDoorCards.lean) ties it to the program's text. -/
def laid_math_bits_deBruijn32tab {H : Type} : DataW H := .agg [.lit (.int .u8 0), .lit (.int .u8 1), .lit (.int .u8 28), .lit (.int .u8 2), .lit (.int .u8 29), .lit (.int .u8 14), .lit (.int .u8 24), .lit (.int .u8 3), .lit (.int .u8 30), .lit (.int .u8 22), .lit (.int .u8 20), .lit (.int .u8 15), .lit (.int .u8 25), .lit (.int .u8 17), .lit (.int .u8 4), .lit (.int .u8 8), .lit (.int .u8 31), .lit (.int .u8 27), .lit (.int .u8 13), .lit (.int .u8 23), .lit (.int .u8 21), .lit (.int .u8 19), .lit (.int .u8 16), .lit (.int .u8 7), .lit (.int .u8 26), .lit (.int .u8 12), .lit (.int .u8 18), .lit (.int .u8 6), .lit (.int .u8 11), .lit (.int .u8 5), .lit (.int .u8 10), .lit (.int .u8 9)]
def laid_math_bits_deBruijn64tab {H : Type} : DataW H := .agg [.lit (.int .u8 0), .lit (.int .u8 1), .lit (.int .u8 56), .lit (.int .u8 2), .lit (.int .u8 57), .lit (.int .u8 49), .lit (.int .u8 28), .lit (.int .u8 3), .lit (.int .u8 61), .lit (.int .u8 58), .lit (.int .u8 42), .lit (.int .u8 50), .lit (.int .u8 38), .lit (.int .u8 29), .lit (.int .u8 17), .lit (.int .u8 4), .lit (.int .u8 62), .lit (.int .u8 47), .lit (.int .u8 59), .lit (.int .u8 36), .lit (.int .u8 45), .lit (.int .u8 43), .lit (.int .u8 51), .lit (.int .u8 22), .lit (.int .u8 53), .lit (.int .u8 39), .lit (.int .u8 33), .lit (.int .u8 30), .lit (.int .u8 24), .lit (.int .u8 18), .lit (.int .u8 12), .lit (.int .u8 5), .lit (.int .u8 63), .lit (.int .u8 55), .lit (.int .u8 48), .lit (.int .u8 27), .lit (.int .u8 60), .lit (.int .u8 41), .lit (.int .u8 37), .lit (.int .u8 16), .lit (.int .u8 46), .lit (.int .u8 35), .lit (.int .u8 44), .lit (.int .u8 21), .lit (.int .u8 52), .lit (.int .u8 32), .lit (.int .u8 23), .lit (.int .u8 11), .lit (.int .u8 54), .lit (.int .u8 26), .lit (.int .u8 40), .lit (.int .u8 15), .lit (.int .u8 34), .lit (.int .u8 20), .lit (.int .u8 31), .lit (.int .u8 10), .lit (.int .u8 25), .lit (.int .u8 14), .lit (.int .u8 19), .lit (.int .u8 9), .lit (.int .u8 13), .lit (.int .u8 8), .lit (.int .u8 7), .lit (.int .u8 6)]
def laid_internal_strconv_uint64pow10 {H : Type} : DataW H := .agg [.lit (.int .u64 1), .lit (.int .u64 10), .lit (.int .u64 100), .lit (.int .u64 1000), .lit (.int .u64 10000), .lit (.int .u64 100000), .lit (.int .u64 1000000), .lit (.int .u64 10000000), .lit (.int .u64 100000000), .lit (.int .u64 1000000000), .lit (.int .u64 10000000000), .lit (.int .u64 100000000000), .lit (.int .u64 1000000000000), .lit (.int .u64 10000000000000), .lit (.int .u64 100000000000000), .lit (.int .u64 1000000000000000), .lit (.int .u64 10000000000000000), .lit (.int .u64 100000000000000000), .lit (.int .u64 1000000000000000000), .lit (.int .u64 10000000000000000000)]

/-- 'ontimelaw35.LpInfeasible': WHATEVER THE INPUT: true; the input reads as it did. -/
def lpInfeasibleSpec : ChangeSpec := { name := "lpInfeasible", fn := fun _ => fun
  | [d] => { results := [.lit (.bool true)], args := [d] }
  | _ => none }
def lpInfeasibleRow : OpenClaim := { program := "ytgffcblldebelaadoor", sum := "a5f8ad79fca3b3761d637f0e4455a84b35a0cc7890d7f38a1bd30d0bfd085663", func := "ontime/ontimelaw35.LpInfeasible", spec := "lpInfeasible", inPlace := ["internal/abi.NoEscape", "internal/bytealg.MakeNoZero"], named := ["internal/strconv.uint64pow10", "math/bits.deBruijn32tab", "math/bits.deBruijn64tab"], apart := false, laid := [("math/bits.deBruijn32tab", laid_math_bits_deBruijn32tab), ("math/bits.deBruijn64tab", laid_math_bits_deBruijn64tab), ("internal/strconv.uint64pow10", laid_internal_strconv_uint64pow10)] }
def LpInfeasibleSaid : Prop := lpInfeasibleRow.holds Tryd.pinned (OpenSpec.ofChange lpInfeasibleSpec)

/-- ITS FALSE NEIGHBOUR: 'it returns false'. Refute it at one input. -/
def lpInfeasibleWrong : ChangeSpec := { name := "lpInfeasible", fn := fun _ => fun
  | [d] => { results := [.lit (.bool false)], args := [d] }
  | _ => none }
def LpInfeasibleWrongFalsely : Prop := lpInfeasibleRow.holds Tryd.pinned (OpenSpec.ofChange lpInfeasibleWrong)

/-- 'ontimelaw35.LpUnbounded': WHATEVER THE INPUT: true; the input reads as it did. -/
def lpUnboundedSpec : ChangeSpec := { name := "lpUnbounded", fn := fun _ => fun
  | [d1, d2] => { results := [.lit (.bool true)], args := [d1, d2] }
  | _ => none }
def lpUnboundedRow : OpenClaim := { program := "ytgffcblldebelaadoor", sum := "a5f8ad79fca3b3761d637f0e4455a84b35a0cc7890d7f38a1bd30d0bfd085663", func := "ontime/ontimelaw35.LpUnbounded", spec := "lpUnbounded", inPlace := ["internal/abi.NoEscape", "internal/bytealg.MakeNoZero"], unfollowed := true, recurses := true, named := ["internal/strconv.uint64pow10", "math/bits.deBruijn32tab", "math/bits.deBruijn64tab"], apart := false, laid := [("math/bits.deBruijn32tab", laid_math_bits_deBruijn32tab), ("math/bits.deBruijn64tab", laid_math_bits_deBruijn64tab), ("internal/strconv.uint64pow10", laid_internal_strconv_uint64pow10)] }
def LpUnboundedSaid : Prop := lpUnboundedRow.holds Tryd.pinned (OpenSpec.ofChange lpUnboundedSpec)

/-- ITS FALSE NEIGHBOUR: 'it returns false'. Refute it at one input. -/
def lpUnboundedWrong : ChangeSpec := { name := "lpUnbounded", fn := fun _ => fun
  | [d1, d2] => { results := [.lit (.bool false)], args := [d1, d2] }
  | _ => none }
def LpUnboundedWrongFalsely : Prop := lpUnboundedRow.holds Tryd.pinned (OpenSpec.ofChange lpUnboundedWrong)

/-- 'ontimelaw35.LpSmall': WHATEVER THE INPUT: true; the input reads as it did. -/
def lpSmallSpec : ChangeSpec := { name := "lpSmall", fn := fun _ => fun
  | [d] => { results := [.lit (.bool true)], args := [d] }
  | _ => none }
def lpSmallRow : OpenClaim := { program := "ytgffcblldebelaadoor", sum := "a5f8ad79fca3b3761d637f0e4455a84b35a0cc7890d7f38a1bd30d0bfd085663", func := "ontime/ontimelaw35.LpSmall", spec := "lpSmall", inPlace := ["internal/abi.NoEscape", "internal/bytealg.MakeNoZero"], unfollowed := true, recurses := true, named := ["internal/strconv.uint64pow10", "math/bits.deBruijn32tab", "math/bits.deBruijn64tab"], apart := false, laid := [("math/bits.deBruijn32tab", laid_math_bits_deBruijn32tab), ("math/bits.deBruijn64tab", laid_math_bits_deBruijn64tab), ("internal/strconv.uint64pow10", laid_internal_strconv_uint64pow10)] }
def LpSmallSaid : Prop := lpSmallRow.holds Tryd.pinned (OpenSpec.ofChange lpSmallSpec)

/-- ITS FALSE NEIGHBOUR: 'it returns false'. Refute it at one input. -/
def lpSmallWrong : ChangeSpec := { name := "lpSmall", fn := fun _ => fun
  | [d] => { results := [.lit (.bool false)], args := [d] }
  | _ => none }
def LpSmallWrongFalsely : Prop := lpSmallRow.holds Tryd.pinned (OpenSpec.ofChange lpSmallWrong)

/-- 'ontimelaw35.LpPermutes': WHATEVER THE INPUT: true; the input reads as it did. -/
def lpPermutesSpec : ChangeSpec := { name := "lpPermutes", fn := fun _ => fun
  | [d1, d2, d3] => { results := [.lit (.bool true)], args := [d1, d2, d3] }
  | _ => none }
def lpPermutesRow : OpenClaim := { program := "ytgffcblldebelaadoor", sum := "a5f8ad79fca3b3761d637f0e4455a84b35a0cc7890d7f38a1bd30d0bfd085663", func := "ontime/ontimelaw35.LpPermutes", spec := "lpPermutes", inPlace := ["internal/abi.NoEscape", "internal/bytealg.MakeNoZero"], unfollowed := true, recurses := true, named := ["internal/strconv.uint64pow10", "math/bits.deBruijn32tab", "math/bits.deBruijn64tab"], apart := false, laid := [("math/bits.deBruijn32tab", laid_math_bits_deBruijn32tab), ("math/bits.deBruijn64tab", laid_math_bits_deBruijn64tab), ("internal/strconv.uint64pow10", laid_internal_strconv_uint64pow10)] }
def LpPermutesSaid : Prop := lpPermutesRow.holds Tryd.pinned (OpenSpec.ofChange lpPermutesSpec)

/-- ITS FALSE NEIGHBOUR: 'it returns false'. Refute it at one input. -/
def lpPermutesWrong : ChangeSpec := { name := "lpPermutes", fn := fun _ => fun
  | [d1, d2, d3] => { results := [.lit (.bool false)], args := [d1, d2, d3] }
  | _ => none }
def LpPermutesWrongFalsely : Prop := lpPermutesRow.holds Tryd.pinned (OpenSpec.ofChange lpPermutesWrong)

/-- 'ontimelaw35.LpScales': WHATEVER THE INPUT: true; the input reads as it did. -/
def lpScalesSpec : ChangeSpec := { name := "lpScales", fn := fun _ => fun
  | [d1, d2] => { results := [.lit (.bool true)], args := [d1, d2] }
  | _ => none }
def lpScalesRow : OpenClaim := { program := "ytgffcblldebelaadoor", sum := "a5f8ad79fca3b3761d637f0e4455a84b35a0cc7890d7f38a1bd30d0bfd085663", func := "ontime/ontimelaw35.LpScales", spec := "lpScales", inPlace := ["internal/abi.NoEscape", "internal/bytealg.MakeNoZero"], unfollowed := true, recurses := true, named := ["internal/strconv.uint64pow10", "math/bits.deBruijn32tab", "math/bits.deBruijn64tab"], apart := false, laid := [("math/bits.deBruijn32tab", laid_math_bits_deBruijn32tab), ("math/bits.deBruijn64tab", laid_math_bits_deBruijn64tab), ("internal/strconv.uint64pow10", laid_internal_strconv_uint64pow10)] }
def LpScalesSaid : Prop := lpScalesRow.holds Tryd.pinned (OpenSpec.ofChange lpScalesSpec)

/-- ITS FALSE NEIGHBOUR: 'it returns false'. Refute it at one input. -/
def lpScalesWrong : ChangeSpec := { name := "lpScales", fn := fun _ => fun
  | [d1, d2] => { results := [.lit (.bool false)], args := [d1, d2] }
  | _ => none }
def LpScalesWrongFalsely : Prop := lpScalesRow.holds Tryd.pinned (OpenSpec.ofChange lpScalesWrong)

/-- 'ontimelaw35.LpMore': WHATEVER THE INPUT: true; the input reads as it did. -/
def lpMoreSpec : ChangeSpec := { name := "lpMore", fn := fun _ => fun
  | [d1, d2] => { results := [.lit (.bool true)], args := [d1, d2] }
  | _ => none }
def lpMoreRow : OpenClaim := { program := "ytgffcblldebelaadoor", sum := "a5f8ad79fca3b3761d637f0e4455a84b35a0cc7890d7f38a1bd30d0bfd085663", func := "ontime/ontimelaw35.LpMore", spec := "lpMore", inPlace := ["internal/abi.NoEscape", "internal/bytealg.MakeNoZero"], named := ["internal/strconv.uint64pow10", "math/bits.deBruijn32tab", "math/bits.deBruijn64tab"], apart := false, laid := [("math/bits.deBruijn32tab", laid_math_bits_deBruijn32tab), ("math/bits.deBruijn64tab", laid_math_bits_deBruijn64tab), ("internal/strconv.uint64pow10", laid_internal_strconv_uint64pow10)] }
def LpMoreSaid : Prop := lpMoreRow.holds Tryd.pinned (OpenSpec.ofChange lpMoreSpec)

/-- ITS FALSE NEIGHBOUR: 'it returns false'. Refute it at one input. -/
def lpMoreWrong : ChangeSpec := { name := "lpMore", fn := fun _ => fun
  | [d1, d2] => { results := [.lit (.bool false)], args := [d1, d2] }
  | _ => none }
def LpMoreWrongFalsely : Prop := lpMoreRow.holds Tryd.pinned (OpenSpec.ofChange lpMoreWrong)

/-- 'ontimelaw35.LpDual': WHATEVER THE INPUT: true; the input reads as it did. -/
def lpDualSpec : ChangeSpec := { name := "lpDual", fn := fun _ => fun
  | [d] => { results := [.lit (.bool true)], args := [d] }
  | _ => none }
def lpDualRow : OpenClaim := { program := "ytgffcblldebelaadoor", sum := "a5f8ad79fca3b3761d637f0e4455a84b35a0cc7890d7f38a1bd30d0bfd085663", func := "ontime/ontimelaw35.LpDual", spec := "lpDual", inPlace := ["internal/abi.NoEscape", "internal/bytealg.MakeNoZero"], named := ["internal/strconv.uint64pow10", "math/bits.deBruijn32tab", "math/bits.deBruijn64tab"], apart := false, laid := [("math/bits.deBruijn32tab", laid_math_bits_deBruijn32tab), ("math/bits.deBruijn64tab", laid_math_bits_deBruijn64tab), ("internal/strconv.uint64pow10", laid_internal_strconv_uint64pow10)] }
def LpDualSaid : Prop := lpDualRow.holds Tryd.pinned (OpenSpec.ofChange lpDualSpec)

/-- ITS FALSE NEIGHBOUR: 'it returns false'. Refute it at one input. -/
def lpDualWrong : ChangeSpec := { name := "lpDual", fn := fun _ => fun
  | [d] => { results := [.lit (.bool false)], args := [d] }
  | _ => none }
def LpDualWrongFalsely : Prop := lpDualRow.holds Tryd.pinned (OpenSpec.ofChange lpDualWrong)

/-- 'ontimelaw35.LpBox': WHATEVER THE INPUT: true; the input reads as it did. -/
def lpBoxSpec : ChangeSpec := { name := "lpBox", fn := fun _ => fun
  | [d1, d2] => { results := [.lit (.bool true)], args := [d1, d2] }
  | _ => none }
def lpBoxRow : OpenClaim := { program := "ytgffcblldebelaadoor", sum := "a5f8ad79fca3b3761d637f0e4455a84b35a0cc7890d7f38a1bd30d0bfd085663", func := "ontime/ontimelaw35.LpBox", spec := "lpBox", inPlace := ["internal/abi.NoEscape", "internal/bytealg.MakeNoZero"], named := ["internal/strconv.uint64pow10", "math/bits.deBruijn32tab", "math/bits.deBruijn64tab"], apart := false, laid := [("math/bits.deBruijn32tab", laid_math_bits_deBruijn32tab), ("math/bits.deBruijn64tab", laid_math_bits_deBruijn64tab), ("internal/strconv.uint64pow10", laid_internal_strconv_uint64pow10)] }
def LpBoxSaid : Prop := lpBoxRow.holds Tryd.pinned (OpenSpec.ofChange lpBoxSpec)

/-- ITS FALSE NEIGHBOUR: 'it returns false'. Refute it at one input. -/
def lpBoxWrong : ChangeSpec := { name := "lpBox", fn := fun _ => fun
  | [d1, d2] => { results := [.lit (.bool false)], args := [d1, d2] }
  | _ => none }
def LpBoxWrongFalsely : Prop := lpBoxRow.holds Tryd.pinned (OpenSpec.ofChange lpBoxWrong)

/-- 'ontimelaw35.LpValues': WHATEVER THE INPUT: true; the input reads as it did. -/
def lpValuesSpec : ChangeSpec := { name := "lpValues", fn := fun _ => fun
  | [d] => { results := [.lit (.bool true)], args := [d] }
  | _ => none }
def lpValuesRow : OpenClaim := { program := "ytgffcblldebelaadoor", sum := "a5f8ad79fca3b3761d637f0e4455a84b35a0cc7890d7f38a1bd30d0bfd085663", func := "ontime/ontimelaw35.LpValues", spec := "lpValues", inPlace := ["internal/abi.NoEscape", "internal/bytealg.MakeNoZero"], unfollowed := true, recurses := true, named := ["internal/strconv.uint64pow10", "math/bits.deBruijn32tab", "math/bits.deBruijn64tab"], apart := false, laid := [("math/bits.deBruijn32tab", laid_math_bits_deBruijn32tab), ("math/bits.deBruijn64tab", laid_math_bits_deBruijn64tab), ("internal/strconv.uint64pow10", laid_internal_strconv_uint64pow10)] }
def LpValuesSaid : Prop := lpValuesRow.holds Tryd.pinned (OpenSpec.ofChange lpValuesSpec)

/-- ITS FALSE NEIGHBOUR: 'it returns false'. Refute it at one input. -/
def lpValuesWrong : ChangeSpec := { name := "lpValues", fn := fun _ => fun
  | [d] => { results := [.lit (.bool false)], args := [d] }
  | _ => none }
def LpValuesWrongFalsely : Prop := lpValuesRow.holds Tryd.pinned (OpenSpec.ofChange lpValuesWrong)

/-- 'ontimelaw35.LpOptimal': WHATEVER THE INPUT: true; the input reads as it did. -/
def lpOptimalSpec : ChangeSpec := { name := "lpOptimal", fn := fun _ => fun
  | [d] => { results := [.lit (.bool true)], args := [d] }
  | _ => none }
def lpOptimalRow : OpenClaim := { program := "ytgffcblldebelaadoor", sum := "a5f8ad79fca3b3761d637f0e4455a84b35a0cc7890d7f38a1bd30d0bfd085663", func := "ontime/ontimelaw35.LpOptimal", spec := "lpOptimal", inPlace := ["internal/abi.NoEscape", "internal/bytealg.MakeNoZero"], named := ["internal/strconv.uint64pow10", "math/bits.deBruijn32tab", "math/bits.deBruijn64tab"], apart := false, laid := [("math/bits.deBruijn32tab", laid_math_bits_deBruijn32tab), ("math/bits.deBruijn64tab", laid_math_bits_deBruijn64tab), ("internal/strconv.uint64pow10", laid_internal_strconv_uint64pow10)] }
def LpOptimalSaid : Prop := lpOptimalRow.holds Tryd.pinned (OpenSpec.ofChange lpOptimalSpec)

/-- ITS FALSE NEIGHBOUR: 'it returns false'. Refute it at one input. -/
def lpOptimalWrong : ChangeSpec := { name := "lpOptimal", fn := fun _ => fun
  | [d] => { results := [.lit (.bool false)], args := [d] }
  | _ => none }
def LpOptimalWrongFalsely : Prop := lpOptimalRow.holds Tryd.pinned (OpenSpec.ofChange lpOptimalWrong)

/-- 'ontimelaw35.LpFeasible': WHATEVER THE INPUT: true; the input reads as it did. -/
def lpFeasibleSpec : ChangeSpec := { name := "lpFeasible", fn := fun _ => fun
  | [d1, d2, d3] => { results := [.lit (.bool true)], args := [d1, d2, d3] }
  | _ => none }
def lpFeasibleRow : OpenClaim := { program := "ytgffcblldebelaadoor", sum := "a5f8ad79fca3b3761d637f0e4455a84b35a0cc7890d7f38a1bd30d0bfd085663", func := "ontime/ontimelaw35.LpFeasible", spec := "lpFeasible", inPlace := ["internal/abi.NoEscape", "internal/bytealg.MakeNoZero"], unfollowed := true, recurses := true, named := ["internal/strconv.uint64pow10", "math/bits.deBruijn32tab", "math/bits.deBruijn64tab"], apart := false, laid := [("math/bits.deBruijn32tab", laid_math_bits_deBruijn32tab), ("math/bits.deBruijn64tab", laid_math_bits_deBruijn64tab), ("internal/strconv.uint64pow10", laid_internal_strconv_uint64pow10)] }
def LpFeasibleSaid : Prop := lpFeasibleRow.holds Tryd.pinned (OpenSpec.ofChange lpFeasibleSpec)

/-- ITS FALSE NEIGHBOUR: 'it returns false'. Refute it at one input. -/
def lpFeasibleWrong : ChangeSpec := { name := "lpFeasible", fn := fun _ => fun
  | [d1, d2, d3] => { results := [.lit (.bool false)], args := [d1, d2, d3] }
  | _ => none }
def LpFeasibleWrongFalsely : Prop := lpFeasibleRow.holds Tryd.pinned (OpenSpec.ofChange lpFeasibleWrong)

/- THE SECOND FORM. 'bulk': how many values and letters a reading holds, each counted each time it is reached (what is shared counts as often as it is met; a slice's spare places count too). A statement '..UptoSaid' is the law's where the arguments, and the package variables that the reading takes, are together of bulk at most 1048576: NARROWER than '..Said'. Prove '..Said' where nothing that the law and all that it calls make is longer than what came in: it says more and counts as full. Else prove '..UptoSaid'. A law counts once. -/
mutual
def uptoBulk {H : Type} : DataW H → Nat
  | .lit (.string bytes) => bytes.length + 1
  | .lit _ => 1
  | .nil => 1
  | .ptr d => uptoBulk d + 1
  | .slice elems spare => uptoBulkAll elems + uptoBulkAll spare + 1
  | .agg parts => uptoBulkAll parts + 1
  | .iface _ d => uptoBulk d + 1
  | .map entries => uptoBulkEntries entries + 1
  | .held _ => 1
def uptoBulkAll {H : Type} : List (DataW H) → Nat
  | [] => 0
  | d :: r => uptoBulk d + uptoBulkAll r
def uptoBulkEntries {H : Type} : List (Lit × DataW H) → Nat
  | [] => 0
  | x :: r => uptoBulkEntry x + uptoBulkEntries r
def uptoBulkEntry {H : Type} : Lit × DataW H → Nat
  | (.string bytes, d) => bytes.length + uptoBulk d + 1
  | (_, d) => uptoBulk d + 1
 end
def uptoSmall : (H : Type) → List (DataW H) → Bool := fun _ ds => decide (uptoBulkAll ds ≤ 1048576)
def OpenSpec.upto (s : _root_.Go.ChangeSpec) : _root_.Go.OpenSpec := { _root_.Go.OpenSpec.ofChange s with cond := some uptoSmall }

/-- 'ontimelaw35.LpInfeasible', WHERE WHAT IT READS IS OF BULK AT MOST 1048576: true; the input reads as it did. -/
def lpInfeasibleUptoRow : OpenClaim := { program := "ytgffcblldebelaadoor", sum := "a5f8ad79fca3b3761d637f0e4455a84b35a0cc7890d7f38a1bd30d0bfd085663", func := "ontime/ontimelaw35.LpInfeasible", spec := "lpInfeasible", inPlace := ["internal/abi.NoEscape", "internal/bytealg.MakeNoZero"], named := ["internal/strconv.uint64pow10", "math/bits.deBruijn32tab", "math/bits.deBruijn64tab"], apart := false, laid := [("math/bits.deBruijn32tab", laid_math_bits_deBruijn32tab), ("math/bits.deBruijn64tab", laid_math_bits_deBruijn64tab), ("internal/strconv.uint64pow10", laid_internal_strconv_uint64pow10)], narrowed := true }
def LpInfeasibleUptoSaid : Prop := lpInfeasibleUptoRow.holds Tryd.pinned (OpenSpec.upto lpInfeasibleSpec)

/-- 'ontimelaw35.LpUnbounded', WHERE WHAT IT READS IS OF BULK AT MOST 1048576: true; the input reads as it did. -/
def lpUnboundedUptoRow : OpenClaim := { program := "ytgffcblldebelaadoor", sum := "a5f8ad79fca3b3761d637f0e4455a84b35a0cc7890d7f38a1bd30d0bfd085663", func := "ontime/ontimelaw35.LpUnbounded", spec := "lpUnbounded", inPlace := ["internal/abi.NoEscape", "internal/bytealg.MakeNoZero"], unfollowed := true, recurses := true, named := ["internal/strconv.uint64pow10", "math/bits.deBruijn32tab", "math/bits.deBruijn64tab"], apart := false, laid := [("math/bits.deBruijn32tab", laid_math_bits_deBruijn32tab), ("math/bits.deBruijn64tab", laid_math_bits_deBruijn64tab), ("internal/strconv.uint64pow10", laid_internal_strconv_uint64pow10)], narrowed := true }
def LpUnboundedUptoSaid : Prop := lpUnboundedUptoRow.holds Tryd.pinned (OpenSpec.upto lpUnboundedSpec)

/-- 'ontimelaw35.LpSmall', WHERE WHAT IT READS IS OF BULK AT MOST 1048576: true; the input reads as it did. -/
def lpSmallUptoRow : OpenClaim := { program := "ytgffcblldebelaadoor", sum := "a5f8ad79fca3b3761d637f0e4455a84b35a0cc7890d7f38a1bd30d0bfd085663", func := "ontime/ontimelaw35.LpSmall", spec := "lpSmall", inPlace := ["internal/abi.NoEscape", "internal/bytealg.MakeNoZero"], unfollowed := true, recurses := true, named := ["internal/strconv.uint64pow10", "math/bits.deBruijn32tab", "math/bits.deBruijn64tab"], apart := false, laid := [("math/bits.deBruijn32tab", laid_math_bits_deBruijn32tab), ("math/bits.deBruijn64tab", laid_math_bits_deBruijn64tab), ("internal/strconv.uint64pow10", laid_internal_strconv_uint64pow10)], narrowed := true }
def LpSmallUptoSaid : Prop := lpSmallUptoRow.holds Tryd.pinned (OpenSpec.upto lpSmallSpec)

/-- 'ontimelaw35.LpPermutes', WHERE WHAT IT READS IS OF BULK AT MOST 1048576: true; the input reads as it did. -/
def lpPermutesUptoRow : OpenClaim := { program := "ytgffcblldebelaadoor", sum := "a5f8ad79fca3b3761d637f0e4455a84b35a0cc7890d7f38a1bd30d0bfd085663", func := "ontime/ontimelaw35.LpPermutes", spec := "lpPermutes", inPlace := ["internal/abi.NoEscape", "internal/bytealg.MakeNoZero"], unfollowed := true, recurses := true, named := ["internal/strconv.uint64pow10", "math/bits.deBruijn32tab", "math/bits.deBruijn64tab"], apart := false, laid := [("math/bits.deBruijn32tab", laid_math_bits_deBruijn32tab), ("math/bits.deBruijn64tab", laid_math_bits_deBruijn64tab), ("internal/strconv.uint64pow10", laid_internal_strconv_uint64pow10)], narrowed := true }
def LpPermutesUptoSaid : Prop := lpPermutesUptoRow.holds Tryd.pinned (OpenSpec.upto lpPermutesSpec)

/-- 'ontimelaw35.LpScales', WHERE WHAT IT READS IS OF BULK AT MOST 1048576: true; the input reads as it did. -/
def lpScalesUptoRow : OpenClaim := { program := "ytgffcblldebelaadoor", sum := "a5f8ad79fca3b3761d637f0e4455a84b35a0cc7890d7f38a1bd30d0bfd085663", func := "ontime/ontimelaw35.LpScales", spec := "lpScales", inPlace := ["internal/abi.NoEscape", "internal/bytealg.MakeNoZero"], unfollowed := true, recurses := true, named := ["internal/strconv.uint64pow10", "math/bits.deBruijn32tab", "math/bits.deBruijn64tab"], apart := false, laid := [("math/bits.deBruijn32tab", laid_math_bits_deBruijn32tab), ("math/bits.deBruijn64tab", laid_math_bits_deBruijn64tab), ("internal/strconv.uint64pow10", laid_internal_strconv_uint64pow10)], narrowed := true }
def LpScalesUptoSaid : Prop := lpScalesUptoRow.holds Tryd.pinned (OpenSpec.upto lpScalesSpec)

/-- 'ontimelaw35.LpMore', WHERE WHAT IT READS IS OF BULK AT MOST 1048576: true; the input reads as it did. -/
def lpMoreUptoRow : OpenClaim := { program := "ytgffcblldebelaadoor", sum := "a5f8ad79fca3b3761d637f0e4455a84b35a0cc7890d7f38a1bd30d0bfd085663", func := "ontime/ontimelaw35.LpMore", spec := "lpMore", inPlace := ["internal/abi.NoEscape", "internal/bytealg.MakeNoZero"], named := ["internal/strconv.uint64pow10", "math/bits.deBruijn32tab", "math/bits.deBruijn64tab"], apart := false, laid := [("math/bits.deBruijn32tab", laid_math_bits_deBruijn32tab), ("math/bits.deBruijn64tab", laid_math_bits_deBruijn64tab), ("internal/strconv.uint64pow10", laid_internal_strconv_uint64pow10)], narrowed := true }
def LpMoreUptoSaid : Prop := lpMoreUptoRow.holds Tryd.pinned (OpenSpec.upto lpMoreSpec)

/-- 'ontimelaw35.LpDual', WHERE WHAT IT READS IS OF BULK AT MOST 1048576: true; the input reads as it did. -/
def lpDualUptoRow : OpenClaim := { program := "ytgffcblldebelaadoor", sum := "a5f8ad79fca3b3761d637f0e4455a84b35a0cc7890d7f38a1bd30d0bfd085663", func := "ontime/ontimelaw35.LpDual", spec := "lpDual", inPlace := ["internal/abi.NoEscape", "internal/bytealg.MakeNoZero"], named := ["internal/strconv.uint64pow10", "math/bits.deBruijn32tab", "math/bits.deBruijn64tab"], apart := false, laid := [("math/bits.deBruijn32tab", laid_math_bits_deBruijn32tab), ("math/bits.deBruijn64tab", laid_math_bits_deBruijn64tab), ("internal/strconv.uint64pow10", laid_internal_strconv_uint64pow10)], narrowed := true }
def LpDualUptoSaid : Prop := lpDualUptoRow.holds Tryd.pinned (OpenSpec.upto lpDualSpec)

/-- 'ontimelaw35.LpBox', WHERE WHAT IT READS IS OF BULK AT MOST 1048576: true; the input reads as it did. -/
def lpBoxUptoRow : OpenClaim := { program := "ytgffcblldebelaadoor", sum := "a5f8ad79fca3b3761d637f0e4455a84b35a0cc7890d7f38a1bd30d0bfd085663", func := "ontime/ontimelaw35.LpBox", spec := "lpBox", inPlace := ["internal/abi.NoEscape", "internal/bytealg.MakeNoZero"], named := ["internal/strconv.uint64pow10", "math/bits.deBruijn32tab", "math/bits.deBruijn64tab"], apart := false, laid := [("math/bits.deBruijn32tab", laid_math_bits_deBruijn32tab), ("math/bits.deBruijn64tab", laid_math_bits_deBruijn64tab), ("internal/strconv.uint64pow10", laid_internal_strconv_uint64pow10)], narrowed := true }
def LpBoxUptoSaid : Prop := lpBoxUptoRow.holds Tryd.pinned (OpenSpec.upto lpBoxSpec)

/-- 'ontimelaw35.LpValues', WHERE WHAT IT READS IS OF BULK AT MOST 1048576: true; the input reads as it did. -/
def lpValuesUptoRow : OpenClaim := { program := "ytgffcblldebelaadoor", sum := "a5f8ad79fca3b3761d637f0e4455a84b35a0cc7890d7f38a1bd30d0bfd085663", func := "ontime/ontimelaw35.LpValues", spec := "lpValues", inPlace := ["internal/abi.NoEscape", "internal/bytealg.MakeNoZero"], unfollowed := true, recurses := true, named := ["internal/strconv.uint64pow10", "math/bits.deBruijn32tab", "math/bits.deBruijn64tab"], apart := false, laid := [("math/bits.deBruijn32tab", laid_math_bits_deBruijn32tab), ("math/bits.deBruijn64tab", laid_math_bits_deBruijn64tab), ("internal/strconv.uint64pow10", laid_internal_strconv_uint64pow10)], narrowed := true }
def LpValuesUptoSaid : Prop := lpValuesUptoRow.holds Tryd.pinned (OpenSpec.upto lpValuesSpec)

/-- 'ontimelaw35.LpOptimal', WHERE WHAT IT READS IS OF BULK AT MOST 1048576: true; the input reads as it did. -/
def lpOptimalUptoRow : OpenClaim := { program := "ytgffcblldebelaadoor", sum := "a5f8ad79fca3b3761d637f0e4455a84b35a0cc7890d7f38a1bd30d0bfd085663", func := "ontime/ontimelaw35.LpOptimal", spec := "lpOptimal", inPlace := ["internal/abi.NoEscape", "internal/bytealg.MakeNoZero"], named := ["internal/strconv.uint64pow10", "math/bits.deBruijn32tab", "math/bits.deBruijn64tab"], apart := false, laid := [("math/bits.deBruijn32tab", laid_math_bits_deBruijn32tab), ("math/bits.deBruijn64tab", laid_math_bits_deBruijn64tab), ("internal/strconv.uint64pow10", laid_internal_strconv_uint64pow10)], narrowed := true }
def LpOptimalUptoSaid : Prop := lpOptimalUptoRow.holds Tryd.pinned (OpenSpec.upto lpOptimalSpec)

/-- 'ontimelaw35.LpFeasible', WHERE WHAT IT READS IS OF BULK AT MOST 1048576: true; the input reads as it did. -/
def lpFeasibleUptoRow : OpenClaim := { program := "ytgffcblldebelaadoor", sum := "a5f8ad79fca3b3761d637f0e4455a84b35a0cc7890d7f38a1bd30d0bfd085663", func := "ontime/ontimelaw35.LpFeasible", spec := "lpFeasible", inPlace := ["internal/abi.NoEscape", "internal/bytealg.MakeNoZero"], unfollowed := true, recurses := true, named := ["internal/strconv.uint64pow10", "math/bits.deBruijn32tab", "math/bits.deBruijn64tab"], apart := false, laid := [("math/bits.deBruijn32tab", laid_math_bits_deBruijn32tab), ("math/bits.deBruijn64tab", laid_math_bits_deBruijn64tab), ("internal/strconv.uint64pow10", laid_internal_strconv_uint64pow10)], narrowed := true }
def LpFeasibleUptoSaid : Prop := lpFeasibleUptoRow.holds Tryd.pinned (OpenSpec.upto lpFeasibleSpec)

end Rows
end Go.Proofs.YtgffcblldebelaaDoor
