/-
  NARROWER THAN 'FOR EVERY INPUT', by the rows' own cells (each row's printed sentence says how): BigintParses: laid · BigintInts: laid · BigintDivides: laid · BigintBits: laid · BigintFull: laid · BigintSmall: laid · BigintComputes: laid · BigintRing: laid · BigintOrders: laid · BigintGcd: laid.
  DERIVED. THE GIVEN ROWS OF THIS SEAT. 10 by the template 'for every input the law returns true; each argument reads behind the call as it read before'; 0 by the template 'total and deterministic' (their statements: YtnojllmidpdbcaaDoorTotals.lean).
  GIVEN WITH THE SEED: the statements are not yours to turn. If you find one false, say at which input.
  Laid BY PROGRAM, IN A SANDBOX (cutbox-rows.mjs): the forced cells as the released guide's own fill.sh prints them over the translation ca66c0410dbc83db… (all of the seat's roots in one cut). By AI agents, Wed Nov 11 2026. No macro, syntax, notation, axiom, sorry.
-/
import Derived.Test.YtnojllmidpdbcaaDoorChecked
import GoSem.Claim
import GoSem.ClaimJoined
import GoSem.ClaimMapViews
import Derived.JoinedTies
import Derived.KernelRfl
namespace Go.Proofs.YtnojllmidpdbcaaDoor
/- THE CELL 'sum', in the pinned program and in every row, IS THE sha256 OF THE DUMP (.gsa) THAT YtnojllmidpdbcaaDoorProg.lean LOADS. Nothing in Lean hashes anything: it is a label: what it is worth is what the hold of that sum in a sandbox is worth. -/
noncomputable def Tryd.pinned : Pinned := { name := "ytnojllmidpdbcaadoor", sum := "ca66c0410dbc83db6a43241c08ec7b5744511beb7c0faae3032786fb3a8e7864", checked := Tryd.checked }
namespace Rows
def none {H : Type} : Left H := { results := [], args := [] }

/- WHAT THE LISTED PACKAGE-LEVEL VARIABLES READ AS WHEN THE CALL BEGINS. Each datum BY PROGRAM (the guide's laid-datum.mjs) off the statement by which the dump's own 'gosem.cut.vars' lays the variable. In a bare row this is a premise. The card (YtnojllmidpdbcaaDoorCards.lean) ties it to the program's text. -/
def laid_math_bits_deBruijn32tab {H : Type} : DataW H := .agg [.lit (.int .u8 0), .lit (.int .u8 1), .lit (.int .u8 28), .lit (.int .u8 2), .lit (.int .u8 29), .lit (.int .u8 14), .lit (.int .u8 24), .lit (.int .u8 3), .lit (.int .u8 30), .lit (.int .u8 22), .lit (.int .u8 20), .lit (.int .u8 15), .lit (.int .u8 25), .lit (.int .u8 17), .lit (.int .u8 4), .lit (.int .u8 8), .lit (.int .u8 31), .lit (.int .u8 27), .lit (.int .u8 13), .lit (.int .u8 23), .lit (.int .u8 21), .lit (.int .u8 19), .lit (.int .u8 16), .lit (.int .u8 7), .lit (.int .u8 26), .lit (.int .u8 12), .lit (.int .u8 18), .lit (.int .u8 6), .lit (.int .u8 11), .lit (.int .u8 5), .lit (.int .u8 10), .lit (.int .u8 9)]
def laid_math_bits_deBruijn64tab {H : Type} : DataW H := .agg [.lit (.int .u8 0), .lit (.int .u8 1), .lit (.int .u8 56), .lit (.int .u8 2), .lit (.int .u8 57), .lit (.int .u8 49), .lit (.int .u8 28), .lit (.int .u8 3), .lit (.int .u8 61), .lit (.int .u8 58), .lit (.int .u8 42), .lit (.int .u8 50), .lit (.int .u8 38), .lit (.int .u8 29), .lit (.int .u8 17), .lit (.int .u8 4), .lit (.int .u8 62), .lit (.int .u8 47), .lit (.int .u8 59), .lit (.int .u8 36), .lit (.int .u8 45), .lit (.int .u8 43), .lit (.int .u8 51), .lit (.int .u8 22), .lit (.int .u8 53), .lit (.int .u8 39), .lit (.int .u8 33), .lit (.int .u8 30), .lit (.int .u8 24), .lit (.int .u8 18), .lit (.int .u8 12), .lit (.int .u8 5), .lit (.int .u8 63), .lit (.int .u8 55), .lit (.int .u8 48), .lit (.int .u8 27), .lit (.int .u8 60), .lit (.int .u8 41), .lit (.int .u8 37), .lit (.int .u8 16), .lit (.int .u8 46), .lit (.int .u8 35), .lit (.int .u8 44), .lit (.int .u8 21), .lit (.int .u8 52), .lit (.int .u8 32), .lit (.int .u8 23), .lit (.int .u8 11), .lit (.int .u8 54), .lit (.int .u8 26), .lit (.int .u8 40), .lit (.int .u8 15), .lit (.int .u8 34), .lit (.int .u8 20), .lit (.int .u8 31), .lit (.int .u8 10), .lit (.int .u8 25), .lit (.int .u8 14), .lit (.int .u8 19), .lit (.int .u8 9), .lit (.int .u8 13), .lit (.int .u8 8), .lit (.int .u8 7), .lit (.int .u8 6)]
def laid_internal_strconv_uint64pow10 {H : Type} : DataW H := .agg [.lit (.int .u64 1), .lit (.int .u64 10), .lit (.int .u64 100), .lit (.int .u64 1000), .lit (.int .u64 10000), .lit (.int .u64 100000), .lit (.int .u64 1000000), .lit (.int .u64 10000000), .lit (.int .u64 100000000), .lit (.int .u64 1000000000), .lit (.int .u64 10000000000), .lit (.int .u64 100000000000), .lit (.int .u64 1000000000000), .lit (.int .u64 10000000000000), .lit (.int .u64 100000000000000), .lit (.int .u64 1000000000000000), .lit (.int .u64 10000000000000000), .lit (.int .u64 100000000000000000), .lit (.int .u64 1000000000000000000), .lit (.int .u64 10000000000000000000)]

/-- 'ontimelaw01.BigintParses': WHATEVER THE INPUT: true; the input reads as it did. -/
def bigintParsesSpec : ChangeSpec := { name := "bigintParses", fn := fun _ => fun
  | [d] => { results := [.lit (.bool true)], args := [d] }
  | _ => none }
def bigintParsesRow : OpenClaim := { program := "ytnojllmidpdbcaadoor", sum := "ca66c0410dbc83db6a43241c08ec7b5744511beb7c0faae3032786fb3a8e7864", func := "ontime/ontimelaw01.BigintParses", spec := "bigintParses", inPlace := ["internal/abi.NoEscape", "internal/bytealg.MakeNoZero"], named := ["internal/strconv.uint64pow10", "math/bits.deBruijn32tab", "math/bits.deBruijn64tab"], apart := false, laid := [("math/bits.deBruijn32tab", laid_math_bits_deBruijn32tab), ("math/bits.deBruijn64tab", laid_math_bits_deBruijn64tab), ("internal/strconv.uint64pow10", laid_internal_strconv_uint64pow10)] }
def BigintParsesSaid : Prop := bigintParsesRow.holds Tryd.pinned (OpenSpec.ofChange bigintParsesSpec)

/-- ITS FALSE NEIGHBOUR: 'it returns false'. Refute it at one input. -/
def bigintParsesWrong : ChangeSpec := { name := "bigintParses", fn := fun _ => fun
  | [d] => { results := [.lit (.bool false)], args := [d] }
  | _ => none }
def BigintParsesWrongFalsely : Prop := bigintParsesRow.holds Tryd.pinned (OpenSpec.ofChange bigintParsesWrong)

/-- 'ontimelaw01.BigintInts': WHATEVER THE INPUT: true; the input reads as it did. -/
def bigintIntsSpec : ChangeSpec := { name := "bigintInts", fn := fun _ => fun
  | [d1, d2] => { results := [.lit (.bool true)], args := [d1, d2] }
  | _ => none }
def bigintIntsRow : OpenClaim := { program := "ytnojllmidpdbcaadoor", sum := "ca66c0410dbc83db6a43241c08ec7b5744511beb7c0faae3032786fb3a8e7864", func := "ontime/ontimelaw01.BigintInts", spec := "bigintInts", inPlace := ["internal/abi.NoEscape", "internal/bytealg.MakeNoZero"], named := ["internal/strconv.uint64pow10", "math/bits.deBruijn32tab", "math/bits.deBruijn64tab"], apart := false, laid := [("math/bits.deBruijn32tab", laid_math_bits_deBruijn32tab), ("math/bits.deBruijn64tab", laid_math_bits_deBruijn64tab), ("internal/strconv.uint64pow10", laid_internal_strconv_uint64pow10)] }
def BigintIntsSaid : Prop := bigintIntsRow.holds Tryd.pinned (OpenSpec.ofChange bigintIntsSpec)

/-- ITS FALSE NEIGHBOUR: 'it returns false'. Refute it at one input. -/
def bigintIntsWrong : ChangeSpec := { name := "bigintInts", fn := fun _ => fun
  | [d1, d2] => { results := [.lit (.bool false)], args := [d1, d2] }
  | _ => none }
def BigintIntsWrongFalsely : Prop := bigintIntsRow.holds Tryd.pinned (OpenSpec.ofChange bigintIntsWrong)

/-- 'ontimelaw01.BigintDivides': WHATEVER THE INPUT: true; the input reads as it did. -/
def bigintDividesSpec : ChangeSpec := { name := "bigintDivides", fn := fun _ => fun
  | [d1, d2] => { results := [.lit (.bool true)], args := [d1, d2] }
  | _ => none }
def bigintDividesRow : OpenClaim := { program := "ytnojllmidpdbcaadoor", sum := "ca66c0410dbc83db6a43241c08ec7b5744511beb7c0faae3032786fb3a8e7864", func := "ontime/ontimelaw01.BigintDivides", spec := "bigintDivides", inPlace := ["internal/abi.NoEscape", "internal/bytealg.MakeNoZero"], named := ["internal/strconv.uint64pow10", "math/bits.deBruijn32tab", "math/bits.deBruijn64tab"], apart := false, laid := [("math/bits.deBruijn32tab", laid_math_bits_deBruijn32tab), ("math/bits.deBruijn64tab", laid_math_bits_deBruijn64tab), ("internal/strconv.uint64pow10", laid_internal_strconv_uint64pow10)] }
def BigintDividesSaid : Prop := bigintDividesRow.holds Tryd.pinned (OpenSpec.ofChange bigintDividesSpec)

/-- ITS FALSE NEIGHBOUR: 'it returns false'. Refute it at one input. -/
def bigintDividesWrong : ChangeSpec := { name := "bigintDivides", fn := fun _ => fun
  | [d1, d2] => { results := [.lit (.bool false)], args := [d1, d2] }
  | _ => none }
def BigintDividesWrongFalsely : Prop := bigintDividesRow.holds Tryd.pinned (OpenSpec.ofChange bigintDividesWrong)

/-- 'ontimelaw01.BigintBits': WHATEVER THE INPUT: true; the input reads as it did. -/
def bigintBitsSpec : ChangeSpec := { name := "bigintBits", fn := fun _ => fun
  | [d] => { results := [.lit (.bool true)], args := [d] }
  | _ => none }
def bigintBitsRow : OpenClaim := { program := "ytnojllmidpdbcaadoor", sum := "ca66c0410dbc83db6a43241c08ec7b5744511beb7c0faae3032786fb3a8e7864", func := "ontime/ontimelaw01.BigintBits", spec := "bigintBits", inPlace := ["internal/abi.NoEscape", "internal/bytealg.MakeNoZero"], named := ["internal/strconv.uint64pow10", "math/bits.deBruijn32tab", "math/bits.deBruijn64tab"], apart := false, laid := [("math/bits.deBruijn32tab", laid_math_bits_deBruijn32tab), ("math/bits.deBruijn64tab", laid_math_bits_deBruijn64tab), ("internal/strconv.uint64pow10", laid_internal_strconv_uint64pow10)] }
def BigintBitsSaid : Prop := bigintBitsRow.holds Tryd.pinned (OpenSpec.ofChange bigintBitsSpec)

/-- ITS FALSE NEIGHBOUR: 'it returns false'. Refute it at one input. -/
def bigintBitsWrong : ChangeSpec := { name := "bigintBits", fn := fun _ => fun
  | [d] => { results := [.lit (.bool false)], args := [d] }
  | _ => none }
def BigintBitsWrongFalsely : Prop := bigintBitsRow.holds Tryd.pinned (OpenSpec.ofChange bigintBitsWrong)

/-- 'ontimelaw01.BigintFull': WHATEVER THE INPUT: true; the input reads as it did. -/
def bigintFullSpec : ChangeSpec := { name := "bigintFull", fn := fun _ => fun
  | [d] => { results := [.lit (.bool true)], args := [d] }
  | _ => none }
def bigintFullRow : OpenClaim := { program := "ytnojllmidpdbcaadoor", sum := "ca66c0410dbc83db6a43241c08ec7b5744511beb7c0faae3032786fb3a8e7864", func := "ontime/ontimelaw01.BigintFull", spec := "bigintFull", inPlace := ["internal/abi.NoEscape", "internal/bytealg.MakeNoZero"], named := ["internal/strconv.uint64pow10", "math/bits.deBruijn32tab", "math/bits.deBruijn64tab"], apart := false, laid := [("math/bits.deBruijn32tab", laid_math_bits_deBruijn32tab), ("math/bits.deBruijn64tab", laid_math_bits_deBruijn64tab), ("internal/strconv.uint64pow10", laid_internal_strconv_uint64pow10)] }
def BigintFullSaid : Prop := bigintFullRow.holds Tryd.pinned (OpenSpec.ofChange bigintFullSpec)

/-- ITS FALSE NEIGHBOUR: 'it returns false'. Refute it at one input. -/
def bigintFullWrong : ChangeSpec := { name := "bigintFull", fn := fun _ => fun
  | [d] => { results := [.lit (.bool false)], args := [d] }
  | _ => none }
def BigintFullWrongFalsely : Prop := bigintFullRow.holds Tryd.pinned (OpenSpec.ofChange bigintFullWrong)

/-- 'ontimelaw01.BigintSmall': WHATEVER THE INPUT: true; the input reads as it did. -/
def bigintSmallSpec : ChangeSpec := { name := "bigintSmall", fn := fun _ => fun
  | [d1, d2] => { results := [.lit (.bool true)], args := [d1, d2] }
  | _ => none }
def bigintSmallRow : OpenClaim := { program := "ytnojllmidpdbcaadoor", sum := "ca66c0410dbc83db6a43241c08ec7b5744511beb7c0faae3032786fb3a8e7864", func := "ontime/ontimelaw01.BigintSmall", spec := "bigintSmall", inPlace := ["internal/abi.NoEscape", "internal/bytealg.MakeNoZero"], named := ["internal/strconv.uint64pow10", "math/bits.deBruijn32tab", "math/bits.deBruijn64tab"], apart := false, laid := [("math/bits.deBruijn32tab", laid_math_bits_deBruijn32tab), ("math/bits.deBruijn64tab", laid_math_bits_deBruijn64tab), ("internal/strconv.uint64pow10", laid_internal_strconv_uint64pow10)] }
def BigintSmallSaid : Prop := bigintSmallRow.holds Tryd.pinned (OpenSpec.ofChange bigintSmallSpec)

/-- ITS FALSE NEIGHBOUR: 'it returns false'. Refute it at one input. -/
def bigintSmallWrong : ChangeSpec := { name := "bigintSmall", fn := fun _ => fun
  | [d1, d2] => { results := [.lit (.bool false)], args := [d1, d2] }
  | _ => none }
def BigintSmallWrongFalsely : Prop := bigintSmallRow.holds Tryd.pinned (OpenSpec.ofChange bigintSmallWrong)

/-- 'ontimelaw01.BigintComputes': WHATEVER THE INPUT: true; the input reads as it did. -/
def bigintComputesSpec : ChangeSpec := { name := "bigintComputes", fn := fun _ => fun
  | [d1, d2] => { results := [.lit (.bool true)], args := [d1, d2] }
  | _ => none }
def bigintComputesRow : OpenClaim := { program := "ytnojllmidpdbcaadoor", sum := "ca66c0410dbc83db6a43241c08ec7b5744511beb7c0faae3032786fb3a8e7864", func := "ontime/ontimelaw01.BigintComputes", spec := "bigintComputes", inPlace := ["internal/abi.NoEscape", "internal/bytealg.MakeNoZero"], named := ["internal/strconv.uint64pow10", "math/bits.deBruijn32tab", "math/bits.deBruijn64tab"], apart := false, laid := [("math/bits.deBruijn32tab", laid_math_bits_deBruijn32tab), ("math/bits.deBruijn64tab", laid_math_bits_deBruijn64tab), ("internal/strconv.uint64pow10", laid_internal_strconv_uint64pow10)] }
def BigintComputesSaid : Prop := bigintComputesRow.holds Tryd.pinned (OpenSpec.ofChange bigintComputesSpec)

/-- ITS FALSE NEIGHBOUR: 'it returns false'. Refute it at one input. -/
def bigintComputesWrong : ChangeSpec := { name := "bigintComputes", fn := fun _ => fun
  | [d1, d2] => { results := [.lit (.bool false)], args := [d1, d2] }
  | _ => none }
def BigintComputesWrongFalsely : Prop := bigintComputesRow.holds Tryd.pinned (OpenSpec.ofChange bigintComputesWrong)

/-- 'ontimelaw01.BigintRing': WHATEVER THE INPUT: true; the input reads as it did. -/
def bigintRingSpec : ChangeSpec := { name := "bigintRing", fn := fun _ => fun
  | [d1, d2, d3] => { results := [.lit (.bool true)], args := [d1, d2, d3] }
  | _ => none }
def bigintRingRow : OpenClaim := { program := "ytnojllmidpdbcaadoor", sum := "ca66c0410dbc83db6a43241c08ec7b5744511beb7c0faae3032786fb3a8e7864", func := "ontime/ontimelaw01.BigintRing", spec := "bigintRing", inPlace := ["internal/abi.NoEscape", "internal/bytealg.MakeNoZero"], named := ["internal/strconv.uint64pow10", "math/bits.deBruijn32tab", "math/bits.deBruijn64tab"], apart := false, laid := [("math/bits.deBruijn32tab", laid_math_bits_deBruijn32tab), ("math/bits.deBruijn64tab", laid_math_bits_deBruijn64tab), ("internal/strconv.uint64pow10", laid_internal_strconv_uint64pow10)] }
def BigintRingSaid : Prop := bigintRingRow.holds Tryd.pinned (OpenSpec.ofChange bigintRingSpec)

/-- ITS FALSE NEIGHBOUR: 'it returns false'. Refute it at one input. -/
def bigintRingWrong : ChangeSpec := { name := "bigintRing", fn := fun _ => fun
  | [d1, d2, d3] => { results := [.lit (.bool false)], args := [d1, d2, d3] }
  | _ => none }
def BigintRingWrongFalsely : Prop := bigintRingRow.holds Tryd.pinned (OpenSpec.ofChange bigintRingWrong)

/-- 'ontimelaw01.BigintOrders': WHATEVER THE INPUT: true; the input reads as it did. -/
def bigintOrdersSpec : ChangeSpec := { name := "bigintOrders", fn := fun _ => fun
  | [d1, d2, d3] => { results := [.lit (.bool true)], args := [d1, d2, d3] }
  | _ => none }
def bigintOrdersRow : OpenClaim := { program := "ytnojllmidpdbcaadoor", sum := "ca66c0410dbc83db6a43241c08ec7b5744511beb7c0faae3032786fb3a8e7864", func := "ontime/ontimelaw01.BigintOrders", spec := "bigintOrders", inPlace := ["internal/abi.NoEscape", "internal/bytealg.MakeNoZero"], named := ["internal/strconv.uint64pow10", "math/bits.deBruijn32tab", "math/bits.deBruijn64tab"], apart := false, laid := [("math/bits.deBruijn32tab", laid_math_bits_deBruijn32tab), ("math/bits.deBruijn64tab", laid_math_bits_deBruijn64tab), ("internal/strconv.uint64pow10", laid_internal_strconv_uint64pow10)] }
def BigintOrdersSaid : Prop := bigintOrdersRow.holds Tryd.pinned (OpenSpec.ofChange bigintOrdersSpec)

/-- ITS FALSE NEIGHBOUR: 'it returns false'. Refute it at one input. -/
def bigintOrdersWrong : ChangeSpec := { name := "bigintOrders", fn := fun _ => fun
  | [d1, d2, d3] => { results := [.lit (.bool false)], args := [d1, d2, d3] }
  | _ => none }
def BigintOrdersWrongFalsely : Prop := bigintOrdersRow.holds Tryd.pinned (OpenSpec.ofChange bigintOrdersWrong)

/-- 'ontimelaw01.BigintGcd': WHATEVER THE INPUT: true; the input reads as it did. -/
def bigintGcdSpec : ChangeSpec := { name := "bigintGcd", fn := fun _ => fun
  | [d1, d2] => { results := [.lit (.bool true)], args := [d1, d2] }
  | _ => none }
def bigintGcdRow : OpenClaim := { program := "ytnojllmidpdbcaadoor", sum := "ca66c0410dbc83db6a43241c08ec7b5744511beb7c0faae3032786fb3a8e7864", func := "ontime/ontimelaw01.BigintGcd", spec := "bigintGcd", inPlace := ["internal/abi.NoEscape", "internal/bytealg.MakeNoZero"], named := ["internal/strconv.uint64pow10", "math/bits.deBruijn32tab", "math/bits.deBruijn64tab"], apart := false, laid := [("math/bits.deBruijn32tab", laid_math_bits_deBruijn32tab), ("math/bits.deBruijn64tab", laid_math_bits_deBruijn64tab), ("internal/strconv.uint64pow10", laid_internal_strconv_uint64pow10)] }
def BigintGcdSaid : Prop := bigintGcdRow.holds Tryd.pinned (OpenSpec.ofChange bigintGcdSpec)

/-- ITS FALSE NEIGHBOUR: 'it returns false'. Refute it at one input. -/
def bigintGcdWrong : ChangeSpec := { name := "bigintGcd", fn := fun _ => fun
  | [d1, d2] => { results := [.lit (.bool false)], args := [d1, d2] }
  | _ => none }
def BigintGcdWrongFalsely : Prop := bigintGcdRow.holds Tryd.pinned (OpenSpec.ofChange bigintGcdWrong)

/- THE SECOND FORM. 'bulk': how many values and letters a reading holds, each counted each time it is reached (what is shared counts as often as it is met; a slice's spare places count too). A statement '..UptoSaid' is the law's where the arguments, and the package variables that the reading takes, are together of bulk at most 1048576: NARROWER than '..Said'. Prove '..Said' where nothing that the law and all that it calls make is longer than what came in: it says more and counts as full. Else prove '..UptoSaid'. A law counts once. -/
mutual
def uptoBulk {H : Type} : DataW H → Nat
  | .lit (.string bytes) => bytes.length + 1
  | .lit _ => 1
  | .nil => 1
  | .ptr d => uptoBulk d + 1
  | .slice elems spare => uptoBulkAll elems + uptoBulkAll spare + 1
  | .agg parts => uptoBulkAll parts + 1
  | .iface _ d => uptoBulk d + 1
  | .map entries => uptoBulkEntries entries + 1
  | .held _ => 1
def uptoBulkAll {H : Type} : List (DataW H) → Nat
  | [] => 0
  | d :: r => uptoBulk d + uptoBulkAll r
def uptoBulkEntries {H : Type} : List (Lit × DataW H) → Nat
  | [] => 0
  | x :: r => uptoBulkEntry x + uptoBulkEntries r
def uptoBulkEntry {H : Type} : Lit × DataW H → Nat
  | (.string bytes, d) => bytes.length + uptoBulk d + 1
  | (_, d) => uptoBulk d + 1
 end
def uptoSmall : (H : Type) → List (DataW H) → Bool := fun _ ds => decide (uptoBulkAll ds ≤ 1048576)
def OpenSpec.upto (s : _root_.Go.ChangeSpec) : _root_.Go.OpenSpec := { _root_.Go.OpenSpec.ofChange s with cond := some uptoSmall }

/-- 'ontimelaw01.BigintParses', WHERE WHAT IT READS IS OF BULK AT MOST 1048576: true; the input reads as it did. -/
def bigintParsesUptoRow : OpenClaim := { program := "ytnojllmidpdbcaadoor", sum := "ca66c0410dbc83db6a43241c08ec7b5744511beb7c0faae3032786fb3a8e7864", func := "ontime/ontimelaw01.BigintParses", spec := "bigintParses", inPlace := ["internal/abi.NoEscape", "internal/bytealg.MakeNoZero"], named := ["internal/strconv.uint64pow10", "math/bits.deBruijn32tab", "math/bits.deBruijn64tab"], apart := false, laid := [("math/bits.deBruijn32tab", laid_math_bits_deBruijn32tab), ("math/bits.deBruijn64tab", laid_math_bits_deBruijn64tab), ("internal/strconv.uint64pow10", laid_internal_strconv_uint64pow10)], narrowed := true }
def BigintParsesUptoSaid : Prop := bigintParsesUptoRow.holds Tryd.pinned (OpenSpec.upto bigintParsesSpec)

/-- 'ontimelaw01.BigintInts', WHERE WHAT IT READS IS OF BULK AT MOST 1048576: true; the input reads as it did. -/
def bigintIntsUptoRow : OpenClaim := { program := "ytnojllmidpdbcaadoor", sum := "ca66c0410dbc83db6a43241c08ec7b5744511beb7c0faae3032786fb3a8e7864", func := "ontime/ontimelaw01.BigintInts", spec := "bigintInts", inPlace := ["internal/abi.NoEscape", "internal/bytealg.MakeNoZero"], named := ["internal/strconv.uint64pow10", "math/bits.deBruijn32tab", "math/bits.deBruijn64tab"], apart := false, laid := [("math/bits.deBruijn32tab", laid_math_bits_deBruijn32tab), ("math/bits.deBruijn64tab", laid_math_bits_deBruijn64tab), ("internal/strconv.uint64pow10", laid_internal_strconv_uint64pow10)], narrowed := true }
def BigintIntsUptoSaid : Prop := bigintIntsUptoRow.holds Tryd.pinned (OpenSpec.upto bigintIntsSpec)

/-- 'ontimelaw01.BigintDivides', WHERE WHAT IT READS IS OF BULK AT MOST 1048576: true; the input reads as it did. -/
def bigintDividesUptoRow : OpenClaim := { program := "ytnojllmidpdbcaadoor", sum := "ca66c0410dbc83db6a43241c08ec7b5744511beb7c0faae3032786fb3a8e7864", func := "ontime/ontimelaw01.BigintDivides", spec := "bigintDivides", inPlace := ["internal/abi.NoEscape", "internal/bytealg.MakeNoZero"], named := ["internal/strconv.uint64pow10", "math/bits.deBruijn32tab", "math/bits.deBruijn64tab"], apart := false, laid := [("math/bits.deBruijn32tab", laid_math_bits_deBruijn32tab), ("math/bits.deBruijn64tab", laid_math_bits_deBruijn64tab), ("internal/strconv.uint64pow10", laid_internal_strconv_uint64pow10)], narrowed := true }
def BigintDividesUptoSaid : Prop := bigintDividesUptoRow.holds Tryd.pinned (OpenSpec.upto bigintDividesSpec)

/-- 'ontimelaw01.BigintBits', WHERE WHAT IT READS IS OF BULK AT MOST 1048576: true; the input reads as it did. -/
def bigintBitsUptoRow : OpenClaim := { program := "ytnojllmidpdbcaadoor", sum := "ca66c0410dbc83db6a43241c08ec7b5744511beb7c0faae3032786fb3a8e7864", func := "ontime/ontimelaw01.BigintBits", spec := "bigintBits", inPlace := ["internal/abi.NoEscape", "internal/bytealg.MakeNoZero"], named := ["internal/strconv.uint64pow10", "math/bits.deBruijn32tab", "math/bits.deBruijn64tab"], apart := false, laid := [("math/bits.deBruijn32tab", laid_math_bits_deBruijn32tab), ("math/bits.deBruijn64tab", laid_math_bits_deBruijn64tab), ("internal/strconv.uint64pow10", laid_internal_strconv_uint64pow10)], narrowed := true }
def BigintBitsUptoSaid : Prop := bigintBitsUptoRow.holds Tryd.pinned (OpenSpec.upto bigintBitsSpec)

/-- 'ontimelaw01.BigintFull', WHERE WHAT IT READS IS OF BULK AT MOST 1048576: true; the input reads as it did. -/
def bigintFullUptoRow : OpenClaim := { program := "ytnojllmidpdbcaadoor", sum := "ca66c0410dbc83db6a43241c08ec7b5744511beb7c0faae3032786fb3a8e7864", func := "ontime/ontimelaw01.BigintFull", spec := "bigintFull", inPlace := ["internal/abi.NoEscape", "internal/bytealg.MakeNoZero"], named := ["internal/strconv.uint64pow10", "math/bits.deBruijn32tab", "math/bits.deBruijn64tab"], apart := false, laid := [("math/bits.deBruijn32tab", laid_math_bits_deBruijn32tab), ("math/bits.deBruijn64tab", laid_math_bits_deBruijn64tab), ("internal/strconv.uint64pow10", laid_internal_strconv_uint64pow10)], narrowed := true }
def BigintFullUptoSaid : Prop := bigintFullUptoRow.holds Tryd.pinned (OpenSpec.upto bigintFullSpec)

/-- 'ontimelaw01.BigintSmall', WHERE WHAT IT READS IS OF BULK AT MOST 1048576: true; the input reads as it did. -/
def bigintSmallUptoRow : OpenClaim := { program := "ytnojllmidpdbcaadoor", sum := "ca66c0410dbc83db6a43241c08ec7b5744511beb7c0faae3032786fb3a8e7864", func := "ontime/ontimelaw01.BigintSmall", spec := "bigintSmall", inPlace := ["internal/abi.NoEscape", "internal/bytealg.MakeNoZero"], named := ["internal/strconv.uint64pow10", "math/bits.deBruijn32tab", "math/bits.deBruijn64tab"], apart := false, laid := [("math/bits.deBruijn32tab", laid_math_bits_deBruijn32tab), ("math/bits.deBruijn64tab", laid_math_bits_deBruijn64tab), ("internal/strconv.uint64pow10", laid_internal_strconv_uint64pow10)], narrowed := true }
def BigintSmallUptoSaid : Prop := bigintSmallUptoRow.holds Tryd.pinned (OpenSpec.upto bigintSmallSpec)

/-- 'ontimelaw01.BigintComputes', WHERE WHAT IT READS IS OF BULK AT MOST 1048576: true; the input reads as it did. -/
def bigintComputesUptoRow : OpenClaim := { program := "ytnojllmidpdbcaadoor", sum := "ca66c0410dbc83db6a43241c08ec7b5744511beb7c0faae3032786fb3a8e7864", func := "ontime/ontimelaw01.BigintComputes", spec := "bigintComputes", inPlace := ["internal/abi.NoEscape", "internal/bytealg.MakeNoZero"], named := ["internal/strconv.uint64pow10", "math/bits.deBruijn32tab", "math/bits.deBruijn64tab"], apart := false, laid := [("math/bits.deBruijn32tab", laid_math_bits_deBruijn32tab), ("math/bits.deBruijn64tab", laid_math_bits_deBruijn64tab), ("internal/strconv.uint64pow10", laid_internal_strconv_uint64pow10)], narrowed := true }
def BigintComputesUptoSaid : Prop := bigintComputesUptoRow.holds Tryd.pinned (OpenSpec.upto bigintComputesSpec)

/-- 'ontimelaw01.BigintRing', WHERE WHAT IT READS IS OF BULK AT MOST 1048576: true; the input reads as it did. -/
def bigintRingUptoRow : OpenClaim := { program := "ytnojllmidpdbcaadoor", sum := "ca66c0410dbc83db6a43241c08ec7b5744511beb7c0faae3032786fb3a8e7864", func := "ontime/ontimelaw01.BigintRing", spec := "bigintRing", inPlace := ["internal/abi.NoEscape", "internal/bytealg.MakeNoZero"], named := ["internal/strconv.uint64pow10", "math/bits.deBruijn32tab", "math/bits.deBruijn64tab"], apart := false, laid := [("math/bits.deBruijn32tab", laid_math_bits_deBruijn32tab), ("math/bits.deBruijn64tab", laid_math_bits_deBruijn64tab), ("internal/strconv.uint64pow10", laid_internal_strconv_uint64pow10)], narrowed := true }
def BigintRingUptoSaid : Prop := bigintRingUptoRow.holds Tryd.pinned (OpenSpec.upto bigintRingSpec)

/-- 'ontimelaw01.BigintOrders', WHERE WHAT IT READS IS OF BULK AT MOST 1048576: true; the input reads as it did. -/
def bigintOrdersUptoRow : OpenClaim := { program := "ytnojllmidpdbcaadoor", sum := "ca66c0410dbc83db6a43241c08ec7b5744511beb7c0faae3032786fb3a8e7864", func := "ontime/ontimelaw01.BigintOrders", spec := "bigintOrders", inPlace := ["internal/abi.NoEscape", "internal/bytealg.MakeNoZero"], named := ["internal/strconv.uint64pow10", "math/bits.deBruijn32tab", "math/bits.deBruijn64tab"], apart := false, laid := [("math/bits.deBruijn32tab", laid_math_bits_deBruijn32tab), ("math/bits.deBruijn64tab", laid_math_bits_deBruijn64tab), ("internal/strconv.uint64pow10", laid_internal_strconv_uint64pow10)], narrowed := true }
def BigintOrdersUptoSaid : Prop := bigintOrdersUptoRow.holds Tryd.pinned (OpenSpec.upto bigintOrdersSpec)

/-- 'ontimelaw01.BigintGcd', WHERE WHAT IT READS IS OF BULK AT MOST 1048576: true; the input reads as it did. -/
def bigintGcdUptoRow : OpenClaim := { program := "ytnojllmidpdbcaadoor", sum := "ca66c0410dbc83db6a43241c08ec7b5744511beb7c0faae3032786fb3a8e7864", func := "ontime/ontimelaw01.BigintGcd", spec := "bigintGcd", inPlace := ["internal/abi.NoEscape", "internal/bytealg.MakeNoZero"], named := ["internal/strconv.uint64pow10", "math/bits.deBruijn32tab", "math/bits.deBruijn64tab"], apart := false, laid := [("math/bits.deBruijn32tab", laid_math_bits_deBruijn32tab), ("math/bits.deBruijn64tab", laid_math_bits_deBruijn64tab), ("internal/strconv.uint64pow10", laid_internal_strconv_uint64pow10)], narrowed := true }
def BigintGcdUptoSaid : Prop := bigintGcdUptoRow.holds Tryd.pinned (OpenSpec.upto bigintGcdSpec)

end Rows
end Go.Proofs.YtnojllmidpdbcaaDoor
