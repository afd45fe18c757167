/- What every card of the rational laws needs: the table of powers, a world for the witness, the closing of a law that leaves the heap it found as it was. -/
import Derived.Test.YtginogcdjplhiaaGreatDoorT10
import Derived.Test.YtginogcdjplhiaaGreatDoorRows
import Derived.WalkKit
import Derived.ProofKit
import Derived.OpenShut
import Derived.Deep.DeepHandedRow
import Derived.Lib.LaidTab
import Derived.LaidSub
set_option linter.unusedVariables false
set_option linter.unusedSimpArgs false
namespace Go.Proofs.YtginogcdjplhiaaGreatDoor.Big
open Go.ChangeShapes Go.WideShapes Go.ChangeAt Go.RowKit

theorem own : ownKnob Tryz.prog.godebug = none := by kernel_rfl
theorem gPow : Tryz.prog.globalNamed "internal/strconv.uint64pow10" = some 0 := by kernel_rfl
theorem gPowType : (Tryz.prog.globals[(0 : Nat)]?).map (·.type) = some 130 := by kernel_rfl
theorem cellsPow : Tryz.prog.cellsOf 130 = 20 := by kernel_rfl
theorem cellsU64 : Tryz.prog.cellsOf 70 = 1 := by kernel_rfl

def laidAll : List (String × DataW Unit) := Rows.rationalComputesRow.laid
theorem laidPow : laidAll.filter (fun x => x.1 == "internal/strconv.uint64pow10") = [("internal/strconv.uint64pow10", Lib.tabData .u64 Lib.pow10Tab)] := by kernel_rfl
theorem tab_of_laid {W : World} (h : laidMetH Tryz.prog laidAll W) : TabOK W := by
  have h : laidMet Tryz.prog laidAll W := h
  have h1 := h.filter (fun x => x.1 == "internal/strconv.uint64pow10")
  rw [laidPow] at h1
  exact Lib.tabIs_of_head (rest := []) gPow gPowType Tryz.underlying130 Tryz.underlying70 cellsU64 cellsPow h1

section
variable {H : Type} {enc : TypeId × Value → H} {P : Program}
/-- A law whose arguments hold no place of memory, and that leaves every block that it found as it was. -/
theorem post_plain {f : Func} {s : ChangeSpec} {apart fresh handsOn again : Bool} {W W' : World} {args : Array Value} {v : Value} {ds gs : List (DataW H)}
    (hW : DataW.Whole enc P f.params.toList s.vars apart W args.toList ds gs [])
    (hres : ∀ (b : Nat) (sp : Nat → Bool) (hd : Bool), DataW.TrodAll enc P W' b sp hd f.resultTypes.toList (v.resultList f.resultTypes.size) (s.fn H (ds ++ gs)).results [])
    (hargs : ∀ sp : Nat → Bool, DataW.TrodAll enc P W' 0 sp true f.params.toList args.toList (s.fn H (ds ++ gs)).args [])
    (hvars : ∀ sp : Nat → Bool, DataW.TrodVars enc P W' sp s.vars (s.fn H (ds ++ gs)).vars [])
    (hk : Below W.heap.size W W')
    (hok : ∀ (j : Nat) (t : TypeId) (r : Value), f.resultTypes[j]? = some t → (v.resultList f.resultTypes.size)[j]? = some r → Value.okWide P W' .any 0 t r) :
    s.post enc P f apart fresh handsOn again W args v W' :=
  ⟨ds, gs, [], [], [], [], hW, hres _ _ _, hargs _, hvars _, hk.frame _, fun _ => ⟨hok, _, _, [], ⟨[], [], trodAll_append (hargs _) (hres _ _ _), hvars _, rfl, (fun _ _ hp => by cases hp), fun _ => List.nodup_nil⟩, fun _ hp _ => by cases hp⟩⟩
end

theorem Lit.wf_int_iff' (k : IntKind) (n : Int) : (Lit.int k n).wf = true ↔ k.min ≤ n ∧ n ≤ k.max := by simp [Lit.wf]
theorem wf32 {n : Int} (h : (Lit.int .i32 n).wf = true) : -2147483648 ≤ n ∧ n ≤ 2147483647 := (Lit.wf_int_iff' .i32 n).1 h
theorem wf64 {n : Int} (h : (Lit.int .i64 n).wf = true) : -9223372036854775808 ≤ n ∧ n ≤ 9223372036854775807 := (Lit.wf_int_iff' .i64 n).1 h
theorem wf8 {n : Int} (h : (Lit.int .u8 n).wf = true) : 0 ≤ n ∧ n ≤ 255 := (Lit.wf_int_iff' .u8 n).1 h

theorem wf16 {n : Int} (h : (Lit.int .i16 n).wf = true) : -32768 ≤ n ∧ n ≤ 32767 := (Lit.wf_int_iff' .i16 n).1 h
theorem wfu16 {n : Int} (h : (Lit.int .u16 n).wf = true) : 0 ≤ n ∧ n ≤ 65535 := (Lit.wf_int_iff' .u16 n).1 h

/-- the cells of a laid row of integers -/
def laidCells : DataW Unit → Array Value
  | .agg xs => (xs.map fun
      | .lit (.int k n) => Value.int k n
      | _ => .nilIface).toArray
  | _ => #[]
def lay (cs : Array Value) : Obj → Obj
  | .cells _ t frozen => .cells cs t frozen
  | o => o
/-- a world for the witness: the settled one, the three tables holding what their text lays -/
noncomputable def laidWorld (os : Os) : World :=
  { World.holding Tryz.prog os ⟨#[], #[], []⟩ with heap := (((World.holding Tryz.prog os ⟨#[], #[], []⟩).heap.modify 2 (lay (laidCells Rows.laid_math_bits_deBruijn32tab))).modify 3 (lay (laidCells Rows.laid_math_bits_deBruijn64tab))).modify 0 (lay (laidCells Rows.laid_internal_strconv_uint64pow10)) }
theorem mx_of_shaped {W : World} (h : W.ShapedOpen Tryz.prog) : Rt.MxOK W := by
  obtain ⟨m, hm⟩ := Tryz.laysM219.s1_3 W h
  exact ⟨m, hm⟩
end Go.Proofs.YtginogcdjplhiaaGreatDoor.Big
