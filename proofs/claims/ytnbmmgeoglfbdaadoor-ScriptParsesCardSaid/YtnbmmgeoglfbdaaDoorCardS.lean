/- What every card of the script's laws needs: the table of powers, a world for the witness, the closing of a law that leaves the heap it found as it was. -/
import Derived.Test.YtnbmmgeoglfbdaaDoorSAwake
import Derived.Test.YtnbmmgeoglfbdaaDoorRows
import Derived.WalkKit
import Derived.ProofKit
import Derived.OpenShut
import Derived.Deep.DeepHandedRow
import Derived.Lib.LaidTab
import Derived.LaidSub
import Derived.Lay
import Derived.Stop.LaidErr
import Derived.Deep.DeepWitnessRowRef
set_option linter.unusedVariables false
set_option linter.unusedSimpArgs false
namespace Go.Proofs.YtnbmmgeoglfbdaaDoor.Big
open Go.ChangeShapes Go.WideShapes Go.ChangeAt Go.RowKit

theorem own : ownKnob Tryd.prog.godebug = none := by kernel_rfl
theorem gPow : Tryd.prog.globalNamed "internal/strconv.uint64pow10" = some 3 := by kernel_rfl
theorem gPowType : (Tryd.prog.globals[(3 : Nat)]?).map (·.type) = some 111 := by kernel_rfl
theorem cellsPow : Tryd.prog.cellsOf 111 = 20 := by kernel_rfl
theorem cellsU64 : Tryd.prog.cellsOf 101 = 1 := by kernel_rfl
theorem gSg : Tryd.prog.globalNamed "ontime/lexer.signs" = some 2 := by kernel_rfl
theorem gSgType : (Tryd.prog.globals[(2 : Nat)]?).map (·.type) = some 99 := by kernel_rfl
theorem cellsSg : Tryd.prog.cellsOf 99 = 28 := by kernel_rfl
theorem cellsStr : Tryd.prog.cellsOf 9 = 1 := by kernel_rfl
theorem gFm : Tryd.prog.globalNamed "ontime/script.formats" = some 0 := by kernel_rfl
theorem gFmType : (Tryd.prog.globals[(0 : Nat)]?).map (·.type) = some 65 := by kernel_rfl
theorem cellsFm : Tryd.prog.cellsOf 65 = 55 := by kernel_rfl
theorem cellsFm1 : Tryd.prog.cellsOf 64 = 5 := by kernel_rfl
theorem cellsInt : Tryd.prog.cellsOf 3 = 1 := by kernel_rfl
theorem cellsBool : Tryd.prog.cellsOf 4 = 1 := by kernel_rfl

def laidAll : List (String × DataW Unit) := Rows.scriptTextsRow.laid
theorem laidPow : laidAll.filter (fun x => x.1 == "internal/strconv.uint64pow10") = [("internal/strconv.uint64pow10", Lib.tabData .u64 Lib.pow10Tab)] := by kernel_rfl
theorem laidSg : laidAll.filter (fun x => x.1 == "ontime/lexer.signs") = [("ontime/lexer.signs", Rows.laid_ontime_lexer_signs)] := by kernel_rfl
theorem laidFm : laidAll.filter (fun x => x.1 == "ontime/script.formats") = [("ontime/script.formats", Rows.laid_ontime_script_formats)] := by kernel_rfl
theorem laidER : laidAll.filter (fun x => x.1 == "strconv.ErrRange") = [("strconv.ErrRange", Rows.laid_strconv_ErrRange)] := by kernel_rfl
theorem laidES : laidAll.filter (fun x => x.1 == "strconv.ErrSyntax") = [("strconv.ErrSyntax", Rows.laid_strconv_ErrSyntax)] := by kernel_rfl
theorem laidHead {W : World} (h : laidMet Tryd.prog laidAll W) {n : String} {d : DataW Unit} (hf : laidAll.filter (fun x => x.1 == n) = [(n, d)]) : laidMet Tryd.prog [(n, d)] W := by
  have h1 := h.filter (fun x => x.1 == n)
  rw [hf] at h1; exact h1
theorem signs_of {W : World} (h : laidMet Tryd.prog laidAll W) : Sc.SignsOK W := by
  obtain ⟨ps, ⟨g', t', cs, fuel, p, q, hg', ht', hvar, hd, _, _⟩, _⟩ := laidHead h laidSg
  obtain rfl := Option.some.inj (gSg.symm.trans hg')
  obtain rfl := Option.some.inj (gSgType.symm.trans ht')
  obtain ⟨xs, m, _, hx, hcl, hxl, hi⟩ := DataW.trod_array Tryd.underlying99 hd
  unfold World.var? at hvar
  rw [gSg] at hvar
  simp only [Option.bind_some] at hvar
  cases hh : W.heap[(2 : Nat)]? with
  | none => rw [hh] at hvar; cases hvar
  | some o =>
    rw [hh] at hvar
    cases o with
    | cells cs' t fr =>
      injection hvar with hvar
      subst hvar
      rw [cellsSg] at hcl
      refine ⟨cs', t, fr, hh, by simpa using hcl, fun k hk => ?_⟩
      have h1 := hi k hk
      have hxk : k < xs.length := by omega
      rw [List.getElem?_eq_getElem hxk, cellsStr] at h1
      obtain ⟨s, hs, _⟩ := DataW.trod_string Tryd.underlying9 h1
      refine ⟨s, ?_⟩
      have h2 := congrArg (·[0]?) hs
      simpa [List.getElem?_take, List.getElem?_drop] using h2
    | _ => cases hvar
set_option maxRecDepth 100000 in
theorem fmt_cells {H : Type} {enc : TypeId × Value → H} {w : World} {base : Nat} {sp : Nat → Bool} {held : Bool} {fuel : Nat} {c : List Value} {y : DataW H × List MemPlace} {a : List UInt8} {b z : Bool} {m n : Int}
    (h : DataW.trod enc Tryd.prog w base sp held fuel 64 c = some y) (hy : y.1 = .agg [.lit (.string a), .lit (.bool b), .lit (.int .i64 m), .lit (.int .i64 n), .lit (.bool z)]) : c = [.string (str a), .bool b, .int .i64 m, .int .i64 n, .bool z] := by
  obtain ⟨ys, k, _, hx, hcl, hyl, hf⟩ := DataW.trod_struct Tryd.underlying64 h
  rw [hx] at hy
  simp only [DataW.agg.injEq] at hy
  rw [cellsFm1] at hcl
  match c, hcl with
  | [c0, c1, c2, c3, c4], _ =>
    have f0 := hf 0 _ rfl
    have f1 := hf 1 _ rfl
    have f2 := hf 2 _ rfl
    have f3 := hf 3 _ rfl
    have f4 := hf 4 _ rfl
    match ys, hyl, hy with
    | [y0, y1, y2, y3, y4], _, hy =>
      simp only [List.map_cons, List.map_nil, List.cons.injEq, and_true] at hy
      obtain ⟨e0, e1, e2, e3, e4⟩ := hy
      obtain ⟨s0, p0, q0, _⟩ := DataW.trod_string Tryd.underlying9 f0
      obtain ⟨s1, p1, q1⟩ := DataW.trod_bool Tryd.underlying4 f1
      obtain ⟨s2, p2, q2, _⟩ := DataW.trod_int Tryd.underlying3 f2
      obtain ⟨s3, p3, q3, _⟩ := DataW.trod_int Tryd.underlying3 f3
      obtain ⟨s4, p4, q4⟩ := DataW.trod_bool Tryd.underlying4 f4
      change List.take (Tryd.prog.cellsOf 9) (List.drop 0 [c0, c1, c2, c3, c4]) = _ at p0
      change List.take (Tryd.prog.cellsOf 4) (List.drop 1 [c0, c1, c2, c3, c4]) = _ at p1
      change List.take (Tryd.prog.cellsOf 3) (List.drop 2 [c0, c1, c2, c3, c4]) = _ at p2
      change List.take (Tryd.prog.cellsOf 3) (List.drop 3 [c0, c1, c2, c3, c4]) = _ at p3
      change List.take (Tryd.prog.cellsOf 4) (List.drop 4 [c0, c1, c2, c3, c4]) = _ at p4
      rw [cellsStr] at p0
      rw [cellsBool] at p1 p4
      rw [cellsInt] at p2 p3
      simp at p0 p1 p2 p3 p4
      subst p0 p1 p2 p3 p4 q0 q1 q2 q3 q4
      simp only [DataW.lit.injEq, Lit.string.injEq, Lit.bool.injEq, Lit.int.injEq, true_and] at e0 e1 e2 e3 e4
      subst e1 e2 e3 e4
      rw [← e0]
      simp [str_of]
def fmtD (k : Nat) : DataW Unit := .agg [.lit (.string (Sc.word k)), .lit (.bool (Sc.fN k)), .lit (.int .i64 (Sc.least k : Nat)), .lit (.int .i64 (Sc.most k : Nat)), .lit (.bool (Sc.fT k))]
theorem fmt_data : ∃ L : List (DataW Unit), Rows.laid_ontime_script_formats = .agg L ∧ ∀ k, k < 11 → L[k]? = some (fmtD k) := by
  refine ⟨_, rfl, fun k hk => ?_⟩
  match k, hk with
  | 0, _ => rfl
  | 1, _ => rfl
  | 2, _ => rfl
  | 3, _ => rfl
  | 4, _ => rfl
  | 5, _ => rfl
  | 6, _ => rfl
  | 7, _ => rfl
  | 8, _ => rfl
  | 9, _ => rfl
  | 10, _ => rfl
theorem formats_of {W : World} (h : laidMet Tryd.prog laidAll W) : Sc.FormatsOK W := by
  obtain ⟨ps, ⟨g', t', cs, fuel, p, q, hg', ht', hvar, hd, _, _⟩, _⟩ := laidHead h laidFm
  obtain rfl := Option.some.inj (gFm.symm.trans hg')
  obtain rfl := Option.some.inj (gFmType.symm.trans ht')
  obtain ⟨xs, m, _, hx, hcl, hxl, hi⟩ := DataW.trod_array Tryd.underlying65 hd
  obtain ⟨L, hL, hLk⟩ := fmt_data
  have hLx : L = xs.map (·.1) := by
    have := congrArg Prod.fst hx
    rw [show ((Rows.laid_ontime_script_formats, p) : DataW Unit × List MemPlace).1 = Rows.laid_ontime_script_formats from rfl, hL] at this
    simpa using this
  unfold World.var? at hvar
  rw [gFm] at hvar
  simp only [Option.bind_some] at hvar
  cases hh : W.heap[(0 : Nat)]? with
  | none => rw [hh] at hvar; cases hvar
  | some o =>
    rw [hh] at hvar
    cases o with
    | cells cs' t fr =>
      injection hvar with hvar
      subst hvar
      rw [cellsFm] at hcl
      refine ⟨cs', t, fr, hh, by simpa using hcl, fun k hk => ?_⟩
      have h1 := hi k hk
      have hxk : k < xs.length := by omega
      rw [List.getElem?_eq_getElem hxk, cellsFm1] at h1
      have h2 := hLk k hk
      rw [hLx, List.getElem?_map, List.getElem?_eq_getElem hxk] at h2
      injection h2 with h2
      have h3 := fmt_cells h1 h2
      have hsz : cs'.size = 55 := by simpa using hcl
      apply Array.ext'
      rw [Array.toList_extract]
      have h4 : (cs'.toList.drop (k * 5)).take 5 = (Sc.fmtV k).toList := h3
      rw [← h4]
      simp [List.extract_eq_take_drop]
    | _ => cases hvar
theorem gER : Tryd.prog.globalNamed "strconv.ErrRange" = some 7 := by kernel_rfl
theorem gERType : (Tryd.prog.globals[(7 : Nat)]?).map (·.type) = some 67 := by kernel_rfl
theorem gES : Tryd.prog.globalNamed "strconv.ErrSyntax" = some 6 := by kernel_rfl
theorem gESType : (Tryd.prog.globals[(6 : Nat)]?).map (·.type) = some 67 := by kernel_rfl
theorem starES : "*" ++ "errors.errorString" = "*errors.errorString" := by decide
theorem rowES (u : TypeId) (h : Tryd.prog.typeName? 3 u = some "*errors.errorString") : u = 135 :=
  typeName_ptr_named (nm := "errors.errorString") (by rw [starES]; kernel_rfl) (by kernel_rfl) (by decide) u (by rw [starES]; exact h)
theorem cellsES : Tryd.prog.cellsOf 137 = 1 := by kernel_rfl
theorem errRange_of {W : World} (h : laidMet Tryd.prog laidAll W) : ∃ tp p, W.var? Tryd.prog "strconv.ErrRange" = some #[.iface tp p] := by
  obtain ⟨a1, s1, hv1, _⟩ := laid_sentinel (laidHead h laidER) gER gERType Tryd.underlying67 rowES Tryd.underlying135 Tryd.underlying137 rfl rfl Tryd.underlying9 cellsES cellsStr
  exact ⟨_, _, hv1⟩
theorem errSyntax_of {W : World} (h : laidMet Tryd.prog laidAll W) : ∃ tp p, W.var? Tryd.prog "strconv.ErrSyntax" = some #[.iface tp p] := by
  obtain ⟨a1, s1, hv1, _⟩ := laid_sentinel (laidHead h laidES) gES gESType Tryd.underlying67 rowES Tryd.underlying135 Tryd.underlying137 rfl rfl Tryd.underlying9 cellsES cellsStr
  exact ⟨_, _, hv1⟩
theorem tab_of_laid {W : World} (h : laidMet Tryd.prog laidAll W) : Lib.TabIs Tryd.prog W "internal/strconv.uint64pow10" .u64 Lib.pow10Tab :=
  Lib.tabIs_of_head (rest := []) gPow gPowType Tryd.underlying111 Tryd.underlying101 cellsU64 cellsPow (laidHead h laidPow)
section
variable {H : Type} {enc : TypeId × Value → H} {P : Program}
/-- A law whose arguments hold no place of memory, and that leaves every block that it found as it was. -/
theorem post_plain {f : Func} {s : ChangeSpec} {apart fresh handsOn again : Bool} {W W' : World} {args : Array Value} {v : Value} {ds gs : List (DataW H)}
    (hW : DataW.Whole enc P f.params.toList s.vars apart W args.toList ds gs [])
    (hres : ∀ (b : Nat) (sp : Nat → Bool) (hd : Bool), DataW.TrodAll enc P W' b sp hd f.resultTypes.toList (v.resultList f.resultTypes.size) (s.fn H (ds ++ gs)).results [])
    (hargs : ∀ sp : Nat → Bool, DataW.TrodAll enc P W' 0 sp true f.params.toList args.toList (s.fn H (ds ++ gs)).args [])
    (hvars : ∀ sp : Nat → Bool, DataW.TrodVars enc P W' sp s.vars (s.fn H (ds ++ gs)).vars [])
    (hk : Below W.heap.size W W')
    (hok : ∀ (j : Nat) (t : TypeId) (r : Value), f.resultTypes[j]? = some t → (v.resultList f.resultTypes.size)[j]? = some r → Value.okWide P W' .any 0 t r) :
    s.post enc P f apart fresh handsOn again W args v W' :=
  ⟨ds, gs, [], [], [], [], hW, hres _ _ _, hargs _, hvars _, hk.frame _, fun _ => ⟨hok, _, _, [], ⟨[], [], trodAll_append (hargs _) (hres _ _ _), hvars _, rfl, (fun _ _ hp => by cases hp), fun _ => List.nodup_nil⟩, fun _ hp _ => by cases hp⟩⟩
end

theorem Lit.wf_int_iff' (k : IntKind) (n : Int) : (Lit.int k n).wf = true ↔ k.min ≤ n ∧ n ≤ k.max := by simp [Lit.wf]
theorem wf32 {n : Int} (h : (Lit.int .i32 n).wf = true) : -2147483648 ≤ n ∧ n ≤ 2147483647 := (Lit.wf_int_iff' .i32 n).1 h
theorem wf64 {n : Int} (h : (Lit.int .i64 n).wf = true) : -9223372036854775808 ≤ n ∧ n ≤ 9223372036854775807 := (Lit.wf_int_iff' .i64 n).1 h
theorem wf8 {n : Int} (h : (Lit.int .u8 n).wf = true) : 0 ≤ n ∧ n ≤ 255 := (Lit.wf_int_iff' .u8 n).1 h

theorem wf16 {n : Int} (h : (Lit.int .i16 n).wf = true) : -32768 ≤ n ∧ n ≤ 32767 := (Lit.wf_int_iff' .i16 n).1 h
theorem wfu16 {n : Int} (h : (Lit.int .u16 n).wf = true) : 0 ≤ n ∧ n ≤ 65535 := (Lit.wf_int_iff' .u16 n).1 h

theorem mx_of_shaped {W : World} (h : W.ShapedOpen Tryd.prog) : ∃ m : Int, W.cell? ⟨1, 0, none⟩ = some (.int .i64 m) := by
  obtain ⟨m, hm⟩ := Tryd.laysM219.s1_3 W h
  exact ⟨m, hm⟩
theorem env_of {W : World} (h : laidMet Tryd.prog laidAll W) (hs : W.ShapedOpen Tryd.prog) : Sc.Env W := ⟨mx_of_shaped hs, tab_of_laid h, signs_of h, errRange_of h, errSyntax_of h⟩
end Go.Proofs.YtnbmmgeoglfbdaaDoor.Big
