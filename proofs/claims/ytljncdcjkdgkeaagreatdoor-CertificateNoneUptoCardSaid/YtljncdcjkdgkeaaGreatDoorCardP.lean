/- What every card of the laws of certificate needs: the table of powers, a world for the witness, the problem among the arguments opened, the closing of a law that leaves the heap it found as it was. -/
import Derived.Test.YtljncdcjkdgkeaaGreatDoorLN2
import Derived.Test.YtljncdcjkdgkeaaGreatDoorT6
import Derived.Test.YtljncdcjkdgkeaaGreatDoorRows
import Derived.WalkKit
import Derived.ProofKit
import Derived.OpenShut
import Derived.Deep.DeepHandedRow
import Derived.Lib.LaidTab
import Derived.LaidSub
import Derived.Deep.Slices
import Derived.Deep.Fields
import Derived.ChangeSame
import Derived.ChangeSlices
import Derived.Carry
import Derived.WideKeyArgs
import Derived.Lib.SmallJoins
set_option linter.unusedVariables false
set_option linter.unusedSimpArgs false
namespace Go.Proofs.YtljncdcjkdgkeaaGreatDoor.Big
open Go.ChangeShapes Go.WideShapes Go.ChangeAt Go.RowKit

theorem own : ownKnob Tryz.prog.godebug = none := by kernel_rfl
theorem gPow : Tryz.prog.globalNamed "internal/strconv.uint64pow10" = some 0 := by kernel_rfl
theorem gPowType : (Tryz.prog.globals[(0 : Nat)]?).map (·.type) = some 208 := by kernel_rfl
theorem cellsPow : Tryz.prog.cellsOf 208 = 20 := by kernel_rfl
theorem cellsU64 : Tryz.prog.cellsOf 145 = 1 := by kernel_rfl

def laidAll : List (String × DataW Unit) := Rows.certificateNoneRow.laid
theorem laidPow : laidAll.filter (fun x => x.1 == "internal/strconv.uint64pow10") = [("internal/strconv.uint64pow10", Lib.tabData .u64 Lib.pow10Tab)] := by kernel_rfl
theorem tab_of_laid {W : World} (h : laidMetH Tryz.prog laidAll W) : TabOK W := by
  have h : laidMet Tryz.prog laidAll W := h
  have h1 := h.filter (fun x => x.1 == "internal/strconv.uint64pow10")
  rw [laidPow] at h1
  exact Lib.tabIs_of_head (rest := []) gPow gPowType Tryz.underlying208 Tryz.underlying145 cellsU64 cellsPow h1

section
variable {H : Type} {enc : TypeId × Value → H} {P : Program}
/-- A law whose arguments hold no place of memory, and that leaves every block that it found as it was. -/
theorem post_plain {f : Func} {s : ChangeSpec} {apart fresh handsOn again : Bool} {W W' : World} {args : Array Value} {v : Value} {ds gs : List (DataW H)}
    (hW : DataW.Whole enc P f.params.toList s.vars apart W args.toList ds gs [])
    (hres : ∀ (b : Nat) (sp : Nat → Bool) (hd : Bool), DataW.TrodAll enc P W' b sp hd f.resultTypes.toList (v.resultList f.resultTypes.size) (s.fn H (ds ++ gs)).results [])
    (hargs : ∀ sp : Nat → Bool, DataW.TrodAll enc P W' 0 sp true f.params.toList args.toList (s.fn H (ds ++ gs)).args [])
    (hvars : ∀ sp : Nat → Bool, DataW.TrodVars enc P W' sp s.vars (s.fn H (ds ++ gs)).vars [])
    (hk : Below W.heap.size W W')
    (hok : ∀ (j : Nat) (t : TypeId) (r : Value), f.resultTypes[j]? = some t → (v.resultList f.resultTypes.size)[j]? = some r → Value.okWide P W' .any 0 t r) :
    s.post enc P f apart fresh handsOn again W args v W' :=
  ⟨ds, gs, [], [], [], [], hW, hres _ _ _, hargs _, hvars _, hk.frame _, fun _ => ⟨hok, _, _, [], ⟨[], [], trodAll_append (hargs _) (hres _ _ _), hvars _, rfl, (fun _ _ hp => by cases hp), fun _ => List.nodup_nil⟩, fun _ hp _ => by cases hp⟩⟩
end

theorem Lit.wf_int_iff' (k : IntKind) (n : Int) : (Lit.int k n).wf = true ↔ k.min ≤ n ∧ n ≤ k.max := by simp [Lit.wf]
theorem wf32 {n : Int} (h : (Lit.int .i32 n).wf = true) : -2147483648 ≤ n ∧ n ≤ 2147483647 := (Lit.wf_int_iff' .i32 n).1 h
theorem wf64 {n : Int} (h : (Lit.int .i64 n).wf = true) : -9223372036854775808 ≤ n ∧ n ≤ 9223372036854775807 := (Lit.wf_int_iff' .i64 n).1 h
theorem wf8 {n : Int} (h : (Lit.int .u8 n).wf = true) : 0 ≤ n ∧ n ≤ 255 := (Lit.wf_int_iff' .u8 n).1 h

theorem wf16 {n : Int} (h : (Lit.int .i16 n).wf = true) : -32768 ≤ n ∧ n ≤ 32767 := (Lit.wf_int_iff' .i16 n).1 h
theorem wfu16 {n : Int} (h : (Lit.int .u16 n).wf = true) : 0 ≤ n ∧ n ≤ 65535 := (Lit.wf_int_iff' .u16 n).1 h

/-- the cells of a laid row of integers -/
def laidCells : DataW Unit → Array Value
  | .agg xs => (xs.map fun
      | .lit (.int k n) => Value.int k n
      | _ => .nilIface).toArray
  | _ => #[]
def lay (cs : Array Value) : Obj → Obj
  | .cells _ t frozen => .cells cs t frozen
  | o => o
/-- a world for the witness: the settled one, the three tables holding what their text lays -/
noncomputable def laidWorld (os : Os) : World :=
  { World.holding Tryz.prog os ⟨#[], #[], []⟩ with heap := (((World.holding Tryz.prog os ⟨#[], #[], []⟩).heap.modify 4 (lay (laidCells Rows.laid_math_bits_deBruijn32tab))).modify 5 (lay (laidCells Rows.laid_math_bits_deBruijn64tab))).modify 0 (lay (laidCells Rows.laid_internal_strconv_uint64pow10)) }

end Go.Proofs.YtljncdcjkdgkeaaGreatDoor.Big
namespace Go.Proofs.YtljncdcjkdgkeaaGreatDoor.Big
open Go.ChangeShapes Go.WideShapes Go.ChangeAt Go.RowKit Go.Deep Go.Proofs.YtljncdcjkdgkeaaGreatDoor.Lp
theorem rowCells : Tryz.prog.cellsOf 104 = 3 := by kernel_rfl
theorem sliCells : Tryz.prog.cellsOf 34 = 1 := by kernel_rfl
theorem u8Cells : Tryz.prog.cellsOf 5 = 1 := by kernel_rfl
theorem i32Cells : Tryz.prog.cellsOf 21 = 1 := by kernel_rfl
theorem proCells : Tryz.prog.cellsOf 37 = 3 := by kernel_rfl
theorem bulk_one {H : Type} (d : DataW H) : 1 ≤ Rows.uptoBulk d := by
  cases d with
  | lit l => cases l <;> simp [Rows.uptoBulk]
  | nil => simp [Rows.uptoBulk]
  | ptr d => simp [Rows.uptoBulk]
  | slice elems spare => simp [Rows.uptoBulk]
  | agg parts => simp [Rows.uptoBulk]
  | iface t d => simp [Rows.uptoBulk]
  | map entries => simp [Rows.uptoBulk]
  | held h => simp [Rows.uptoBulk]
theorem bulk_part {H : Type} {d : DataW H} {l : List (DataW H)} (h : d ∈ l) : Rows.uptoBulk d ≤ Rows.uptoBulkAll l := by
  induction l with
  | nil => cases h
  | cons x r ih =>
    simp only [Rows.uptoBulkAll]
    cases List.mem_cons.1 h with
    | inl e => subst e; omega
    | inr e => have := ih e; omega
theorem bulk_len {H : Type} (l : List (DataW H)) : l.length ≤ Rows.uptoBulkAll l := by
  induction l with
  | nil => simp [Rows.uptoBulkAll]
  | cons x r ih => have := bulk_one x; simp only [Rows.uptoBulkAll, List.length_cons]; omega
theorem bulk_slice {H : Type} (elems spare : List (DataW H)) : Rows.uptoBulkAll elems + Rows.uptoBulkAll spare + 1 = Rows.uptoBulk (.slice elems spare) := by simp [Rows.uptoBulk]
theorem bulk_agg {H : Type} (parts : List (DataW H)) : Rows.uptoBulkAll parts + 1 = Rows.uptoBulk (.agg parts) := by simp [Rows.uptoBulk]
section
variable {H : Type} {enc : TypeId × Value → H} {W : World} {base : Nat} {r : Reach} {b0 : Nat}
set_option maxRecDepth 100000 in
theorem i32s_row {sp : Nat → Bool} {fuel : Nat} {v : Value} {y : DataW H × List MemPlace} (h : DataW.trod enc Tryz.prog W base sp true fuel 34 [v] = some y) :
    ∃ A n c xs, v = .slice A n c ∧ Lp.Row W (.slice A n c) (wV xs) ∧ (∀ z ∈ xs, in32 z) ∧ xs.length ≤ Rows.uptoBulk y.1 := by
  rcases open_ints Tryz.underlying34 Tryz.underlying21 (by kernel_rfl) h with ⟨h1, _⟩ | ⟨a, len, cap, zs, h1, _, h2, h3, h4, h5, h6, h7⟩
  · injection h1 with h1
    exact ⟨none, 0, 0, [], h1, Row.nil W none 0 (by omega), (fun z hz => by cases hz), by simp⟩
  · injection h1 with h1
    subst h1
    have hzl : len ≤ zs.length := by rw [h4]; split <;> omega
    refine ⟨some a, len, cap, zs.take len, rfl, ?_, ?_, ?_⟩
    · refine ⟨some a, cap, by rw [wV_len, List.length_take, Nat.min_eq_left hzl], by rw [wV_len, List.length_take]; omega, by unfold maxLen at h3; exact h3, fun hn => ?_⟩
      rw [wV_len, List.length_take] at hn
      obtain ⟨b, off, spot⟩ := a
      have hspot : spot = none := by simpa [Addr.add] using World.cell?_spot (h6 0 (by omega))
      subst hspot
      refine ⟨b, off, rfl, fun j u hj => ?_⟩
      have hjl : j < (wV (zs.take len)).length := (List.getElem?_eq_some_iff.1 hj).1
      rw [wV_len, List.length_take] at hjl
      have hc := h6 j (by omega)
      rw [show (⟨b, off, none⟩ : Addr).add j = ⟨b, off + j, none⟩ by simp [Addr.add]] at hc
      rw [hc]
      have h8 : (zs.take len)[j]? = some (zs.getD j 0) := by
        rw [List.getElem?_take, if_pos (by omega), List.getElem?_eq_getElem (by omega)]
        simp [List.getD, show j < zs.length by omega]
      rw [wV_get h8] at hj
      exact hj
    · intro z hz
      exact wf32 (h7 z (List.mem_of_mem_take hz))
    · rw [h5]
      have h8 := bulk_slice (lits .i32 (zs.take len) : List (DataW H)) (lits .i32 (zs.drop len))
      have h9 := bulk_len (lits .i32 (zs.take len) : List (DataW H))
      have hl1 : (lits .i32 (zs.take len) : List (DataW H)).length = (zs.take len).length := by simp [lits]
      show (zs.take len).length ≤ Rows.uptoBulk (.slice (lits .i32 (zs.take len)) (lits .i32 (zs.drop len)))
      omega
set_option maxRecDepth 100000 in
/-- one row among the arguments, read -/
theorem irow_of {sp : Nat → Bool} {fuel : Nat} {a : Addr} {cs : List Value} {x : DataW H × List MemPlace}
    (hc : W.cells? base a (Tryz.prog.cellsOf 104) = some cs) (h : DataW.trod enc Tryz.prog W base sp true fuel 104 cs = some x) :
    ∃ (v0 v1 v2 : Value) (y0 y1 y2 : DataW H × List MemPlace) (n : Nat), x.1 = .agg [y0.1, y1.1, y2.1] ∧ W.cell? (a.add 0) = some v0 ∧ W.cell? (a.add 1) = some v1 ∧ W.cell? (a.add 2) = some v2 ∧
      DataW.trod enc Tryz.prog W base sp true n 34 [v0] = some y0 ∧ DataW.trod enc Tryz.prog W base sp true n 5 [v1] = some y1 ∧ DataW.trod enc Tryz.prog W base sp true n 21 [v2] = some y2 := by
  obtain ⟨ys, n, _, hx, hl, hyl, hf⟩ := DataW.trod_struct Tryz.underlying104 h
  rw [rowCells] at hc hl
  obtain ⟨_, _, hat⟩ := World.cells?_some hc
  match cs, hl, hat, hf with
  | [v0, v1, v2], _, hat, hf =>
    match ys, hyl, hx, hf with
    | [y0, y1, y2], _, hx, hf =>
      have f0 := hf 0 _ rfl
      have f1 := hf 1 _ rfl
      have f2 := hf 2 _ rfl
      change DataW.trod enc Tryz.prog W base sp true n 34 (List.take (Tryz.prog.cellsOf 34) (List.drop 0 [v0, v1, v2])) = some y0 at f0
      change DataW.trod enc Tryz.prog W base sp true n 5 (List.take (Tryz.prog.cellsOf 5) (List.drop 1 [v0, v1, v2])) = some y1 at f1
      change DataW.trod enc Tryz.prog W base sp true n 21 (List.take (Tryz.prog.cellsOf 21) (List.drop 2 [v0, v1, v2])) = some y2 at f2
      rw [sliCells] at f0
      rw [u8Cells] at f1
      rw [i32Cells] at f2
      exact ⟨v0, v1, v2, y0, y1, y2, n, congrArg Prod.fst hx, hat (i := 0) (by omega), hat (i := 1) (by omega), hat (i := 2) (by omega), f0, f1, f2⟩
set_option maxRecDepth 100000 in
theorem irows_row {sp : Nat → Bool} {fuel : Nat} {v : Value} {y : DataW H × List MemPlace} (h : DataW.trod enc Tryz.prog W base sp true fuel 35 [v] = some y) (hb : Rows.uptoBulk y.1 ≤ 1048576) :
    ∃ (A : Option Addr) (c : Nat) (rows : List IRow), v = .slice A rows.length c ∧ rows.length ≤ c ∧ c ≤ 9223372036854775807 ∧ rows.length ≤ 1048576 ∧ (∀ x ∈ rows, IRow.ok x) ∧ (0 < rows.length → ∃ b off, A = some ⟨b, off, none⟩ ∧ ∀ j x, rows[j]? = some x → IRowAt W b (off + j * 3) x) := by
  rcases open_slice Tryz.underlying35 h with ⟨h1, _⟩ | ⟨a, len, cap, m, k, D, Pl, h1, _, h2, h3, h4, h5, h6⟩
  · injection h1 with h1
    exact ⟨none, 0, [], h1, by simp, by omega, by simp, (fun x hx => by cases hx), fun h => absurd h (by simp)⟩
  · injection h1 with h1
    subst h1
    have hm : len ≤ m := by rw [h4]; split <;> omega
    have hd : y.1 = .slice ((List.range len).map D) ((List.range (m - len)).map fun j => D (len + j)) := congrArg Prod.fst h5
    have hbs := bulk_slice ((List.range len).map D) ((List.range (m - len)).map fun j => D (len + j))
    rw [← hd] at hbs
    have hbl := bulk_len ((List.range len).map D)
    simp only [List.length_map, List.length_range] at hbl
    have each : ∀ i, ∃ x : IRow, i < len → ∃ A c, W.cell? (a.add (i * 3 + 0)) = some (.slice A x.coef.length c) ∧ W.cell? (a.add (i * 3 + 1)) = some (.int .u8 (x.rel : Int)) ∧ W.cell? (a.add (i * 3 + 2)) = some (.int .i32 x.right) ∧
        Lp.Row W (.slice A x.coef.length c) (wV x.coef) ∧ x.ok := by
      intro i
      by_cases hi : i < len
      · obtain ⟨cs', hcs, htr⟩ := h6 i (by omega)
        obtain ⟨v0, v1, v2, y0, y1, y2, fu, hD, c0, c1, c2, t0, t1, t2⟩ := irow_of hcs htr
        rw [rowCells, Go.Deep.add_add] at c0 c1 c2
        have hD : D i = .agg [y0.1, y1.1, y2.1] := hD
        obtain ⟨A', n', c', xs, q0, hrow, hin, hlen⟩ := i32s_row t0
        obtain ⟨z1, q1, r1, wf1⟩ := DataW.trod_int Tryz.underlying5 t1
        obtain ⟨z2, q2, r2, wf2⟩ := DataW.trod_int Tryz.underlying21 t2
        injection q1 with q1
        injection q2 with q2
        subst q0 q1 q2
        have hz1 := wf8 wf1
        have hz2 := wf32 wf2
        have hmem : D i ∈ (List.range len).map D := List.mem_map.2 ⟨i, List.mem_range.2 hi, rfl⟩
        have hp := bulk_part hmem
        rw [hD] at hp
        have ha := bulk_agg [y0.1, y1.1, y2.1]
        have hq : Rows.uptoBulk y0.1 ≤ Rows.uptoBulkAll [y0.1, y1.1, y2.1] := bulk_part (by simp)
        obtain ⟨hn', -⟩ := hrow.inj
        rw [wV_len] at hn'
        subst hn'
        exact ⟨⟨xs, z1.toNat, z2⟩, fun _ => ⟨A', c', c0, by rw [show ((z1.toNat : Nat) : Int) = z1 by omega]; exact c1, c2, hrow, hin, hz2, by show z1.toNat ≤ 255; omega, by show xs.length ≤ 1048576; omega⟩⟩
      · exact ⟨⟨[], 0, 0⟩, fun h => absurd h hi⟩
    obtain ⟨f, hf'⟩ := Classical.axiomOfChoice each
    refine ⟨some a, cap, (List.range len).map f, by simp, by simpa using h2, by unfold maxLen at h3; exact h3, by simp; omega, ?_, fun hn => ?_⟩
    · intro x hx
      obtain ⟨i, hi, rfl⟩ := List.mem_map.1 hx
      obtain ⟨_, _, _, _, _, _, hb⟩ := hf' i (List.mem_range.1 hi)
      exact hb
    · simp at hn
      obtain ⟨b, off, spot⟩ := a
      obtain ⟨A', c', c0, _⟩ := hf' 0 hn
      have hspot : spot = none := by simpa [Addr.add] using World.cell?_spot c0
      subst hspot
      refine ⟨b, off, rfl, fun j x hj => ?_⟩
      have hjn : j < len := by simpa using (List.getElem?_eq_some_iff.1 hj).1
      rw [List.getElem?_map, List.getElem?_range hjn] at hj
      injection hj with hj
      subst hj
      obtain ⟨A1, c1, k0, k1, k2, k3, _⟩ := hf' j hjn
      have hadd : ∀ i, (⟨b, off, none⟩ : Addr).add i = ⟨b, off + i, none⟩ := fun i => by unfold Addr.add; split <;> simp_all
      rw [hadd] at k0 k1 k2
      exact ⟨A1, c1, k0, k1, k2, k3⟩
set_option maxRecDepth 100000 in
/-- the problem among the arguments -/
theorem open_ip {v : Value} {d : DataW H} {p : List MemPlace} (hv : Value.okWide Tryz.prog W r b0 37 v) (h : DataW.Trod enc Tryz.prog W base (fun _ => true) true 37 v d p) (hb : Rows.uptoBulk d ≤ 1048576) :
    ∃ ip : IP, IPV W v ip ∧ ip.ok := by
  obtain ⟨v0, v1, v2, y0, y1, y2, n, rfl, rfl, rfl, t0, t1, t2⟩ := Go.Joins.open_agg3 Tryz.underlying37 (by kernel_rfl) proCells hv h
  have ha := bulk_agg [y0.1, y1.1, y2.1]
  have h0 : Rows.uptoBulk y0.1 ≤ Rows.uptoBulkAll [y0.1, y1.1, y2.1] := bulk_part (by simp)
  have h1 : Rows.uptoBulk y1.1 ≤ Rows.uptoBulkAll [y0.1, y1.1, y2.1] := bulk_part (by simp)
  obtain ⟨A, m, c, xs, rfl, hrow, hin, hlen⟩ := i32s_row t0
  obtain ⟨A', c', rows, rfl, r1, r2, r3, r4, r5⟩ := irows_row t1 (by omega)
  obtain ⟨z, q, _, wf⟩ := DataW.trod_int Tryz.underlying5 t2
  injection q with q
  subst q
  have hz := wf8 wf
  obtain ⟨hn', -⟩ := hrow.inj
  rw [wV_len] at hn'
  subst hn'
  refine ⟨⟨xs, rows, z.toNat⟩, ⟨A, c, A', c', ?_, hrow, r1, r2, r5⟩, hin, by show xs.length ≤ 1048576; omega, r3, by show z.toNat ≤ 255; omega, r4⟩
  show Value.agg _ = .agg #[_, _, .int .u8 ((z.toNat : Nat) : Int)]
  rw [show ((z.toNat : Nat) : Int) = z by omega]
end
section
variable {H : Type} {enc : TypeId × Value → H}
theorem laidOutP : laidOutB Tryz.prog = true := by kernel_rfl
def Readable (ts : List TypeId) : Prop := ∀ t ∈ ts, Tryz.prog.readableRec t = true ∧ t < Tryz.prog.types.size
/-- all arguments read again as they were -/
theorem args_stay {W W' : World} (hb : Below W.heap.size W W') {sp : Nat → Bool} : ∀ {ts : List TypeId} {vs : List Value} {ds : List (DataW H)} {ps : List MemPlace}, Readable ts → (∀ x ∈ ps, x.block < W.heap.size) → (∀ x ∈ ps, sp x.block = true) →
    DataW.TrodAll enc Tryz.prog W 0 (fun _ => true) true ts vs ds ps → DataW.TrodAll enc Tryz.prog W' 0 sp true ts vs ds ps
  | [], [], [], _, _, _, _, h => h
  | t :: ts, v :: vs, d :: ds, ps, hr, hlt, hs, ⟨p, q, h1, h2, e⟩ => by
    subst e
    obtain ⟨r1, r2⟩ := hr t (by simp)
    refine ⟨p, q, ?_, args_stay hb (fun t ht => hr t (by simp [ht])) (fun x hx => hlt x (by simp [hx])) (fun x hx => hs x (by simp [hx])) h2, rfl⟩
    exact WideElems.Trod_stays laidOutP r1 r2 h1 (fun x hx => hb.same (hlt x (by simp [hx]))) (fun x hx => hs x (by simp [hx]))
end

set_option maxRecDepth 100000 in
/-- A law whose arguments are kept, and that leaves every block that it found as it was. -/
theorem post_stay {H : Type} {enc : TypeId × Value → H} {f : Func} {s : ChangeSpec} {W W' : World} {args : Array Value} {v : Value} {ds gs : List (DataW H)} {before : List MemPlace}
    (hW : DataW.Whole enc Tryz.prog f.params.toList s.vars false W args.toList ds gs before) (hvr : s.vars = []) (hr : Readable f.params.toList) (hfa : (s.fn H (ds ++ gs)).args = ds) (hfv : (s.fn H (ds ++ gs)).vars = [])
    (hres : ∀ (b : Nat) (sp : Nat → Bool) (hd : Bool), DataW.TrodAll enc Tryz.prog W' b sp hd f.resultTypes.toList (v.resultList f.resultTypes.size) (s.fn H (ds ++ gs)).results []) (hb : Below W.heap.size W W')
    (hok : ∀ (j : Nat) (t : TypeId) (r : Value), f.resultTypes[j]? = some t → (v.resultList f.resultTypes.size)[j]? = some r → Value.okWide Tryz.prog W' .any 0 t r) :
    s.post enc Tryz.prog f false true false false W args v W' := by
  have hlt : ∀ x ∈ before, x.block < W.heap.size := fun x hx => hW.lt x hx
  have hold : ∀ x ∈ before, (fun b => decide (b < W.heap.size)) x.block = true := fun x hx => by simpa using hlt x hx
  have hW0 := hW
  obtain ⟨p, q, hA, hV, hpq, hz, hn⟩ := hW0
  have hA : DataW.TrodAll enc Tryz.prog W 0 (fun _ => true) true f.params.toList args.toList ds p := hA
  rw [hvr] at hV
  obtain ⟨rfl, rfl⟩ := trodVars_none hV
  rw [List.append_nil] at hpq
  subst hpq
  have hargs : ∀ sp : Nat → Bool, (∀ x ∈ before, sp x.block = true) → DataW.TrodAll enc Tryz.prog W' 0 sp true f.params.toList args.toList (s.fn H (ds ++ [])).args before := fun sp hs => by
    rw [hfa]; exact args_stay hb hr hlt hs hA
  have hvars : ∀ sp : Nat → Bool, DataW.TrodVars enc Tryz.prog W' sp s.vars (s.fn H (ds ++ [])).vars [] := fun sp => by
    rw [hfv, hvr]; rfl
  refine ⟨ds, [], before, [], before, [], hW, hres _ _ _, hargs _ hold, hvars _, World.keptBut_mono (fun x hx => ⟨hx, Or.inr (Or.inl hx)⟩) (hb.frame (· ∈ before)), fun _ => ⟨hok, _, _, ([] ++ before) ++ [], ⟨[] ++ before, [], trodAll_append (hargs _ (fun _ _ => rfl)) (hres _ _ _), hvars _, rfl, ?_, ?_⟩, ?_⟩⟩
  · intro b off hp
    have hin : MemPlace.cell b off ∈ before := by simpa using hp
    rw [hb.frozen (hlt _ hin)]
    exact hz b off hin
  · intro ha
    simpa using hn ha
  · intro x hx _
    simpa using hx
end Go.Proofs.YtljncdcjkdgkeaaGreatDoor.Big
