/- A list of commands among the arguments: opened, and read again as it was. -/
import Derived.Test.YtnbmmgeoglfbdaaDoorCardS
import Derived.Test.YtnbmmgeoglfbdaaDoorSLaws
import Derived.Deep.Slices
import Derived.Deep.Fields
import Derived.ChangeSame
import Derived.ChangeSlices
import Derived.Carry
import Derived.WideKeyArgs
set_option linter.unusedVariables false
set_option linter.unusedSimpArgs false
namespace Go.Proofs.YtnbmmgeoglfbdaaDoor.Big
open Go.ChangeShapes Go.WideShapes Go.ChangeAt Go.RowKit Go.Deep Go.Proofs.YtnbmmgeoglfbdaaDoor.Sc
theorem cmdCells : Tryd.prog.cellsOf 40 = 4 := by kernel_rfl
theorem sliCells : Tryd.prog.cellsOf 38 = 1 := by kernel_rfl
theorem u8Cells : Tryd.prog.cellsOf 5 = 1 := by kernel_rfl
set_option maxRecDepth 100000 in
/-- one command among the arguments, read -/
theorem cmd_of {H : Type} {enc : TypeId × Value → H} {w : World} {base : Nat} {sp : Nat → Bool} {fuel : Nat} {a : Addr} {cs : List Value} {x : DataW H × List MemPlace}
    (hc : w.cells? base a (Tryd.prog.cellsOf 40) = some cs) (h : DataW.trod enc Tryd.prog w base sp true fuel 40 cs = some x) :
    ∃ (v0 v1 v2 v3 : Value) (y0 y1 y2 y3 : DataW H × List MemPlace) (n : Nat), x.1 = .agg [y0.1, y1.1, y2.1, y3.1] ∧ w.cell? (a.add 0) = some v0 ∧ w.cell? (a.add 1) = some v1 ∧ w.cell? (a.add 2) = some v2 ∧ w.cell? (a.add 3) = some v3 ∧
      DataW.trod enc Tryd.prog w base sp true n 5 [v0] = some y0 ∧ DataW.trod enc Tryd.prog w base sp true n 9 [v1] = some y1 ∧ DataW.trod enc Tryd.prog w base sp true n 38 [v2] = some y2 ∧ DataW.trod enc Tryd.prog w base sp true n 9 [v3] = some y3 := by
  obtain ⟨ys, n, _, hx, hl, hyl, hf⟩ := DataW.trod_struct Tryd.underlying40 h
  rw [cmdCells] at hc hl
  obtain ⟨_, _, hat⟩ := World.cells?_some hc
  match cs, hl, hat, hf with
  | [v0, v1, v2, v3], _, hat, hf =>
    match ys, hyl, hx, hf with
    | [y0, y1, y2, y3], _, hx, hf =>
      have f0 := hf 0 _ rfl
      have f1 := hf 1 _ rfl
      have f2 := hf 2 _ rfl
      have f3 := hf 3 _ rfl
      change DataW.trod enc Tryd.prog w base sp true n 5 (List.take (Tryd.prog.cellsOf 5) (List.drop 0 [v0, v1, v2, v3])) = some y0 at f0
      change DataW.trod enc Tryd.prog w base sp true n 9 (List.take (Tryd.prog.cellsOf 9) (List.drop 1 [v0, v1, v2, v3])) = some y1 at f1
      change DataW.trod enc Tryd.prog w base sp true n 38 (List.take (Tryd.prog.cellsOf 38) (List.drop 2 [v0, v1, v2, v3])) = some y2 at f2
      change DataW.trod enc Tryd.prog w base sp true n 9 (List.take (Tryd.prog.cellsOf 9) (List.drop 3 [v0, v1, v2, v3])) = some y3 at f3
      rw [u8Cells] at f0
      rw [cellsStr] at f1 f3
      rw [sliCells] at f2
      refine ⟨v0, v1, v2, v3, y0, y1, y2, y3, n, congrArg Prod.fst hx, ?_, ?_, ?_, ?_, f0, f1, f2, f3⟩
      · exact hat (i := 0) (by omega)
      · exact hat (i := 1) (by omega)
      · exact hat (i := 2) (by omega)
      · exact hat (i := 3) (by omega)
theorem mem_weightsAll {H : Type} {P : Program} {e : TypeId} {x : Nat} {d : DataW H} (hx : x ∈ d.weights P e) : ∀ {ds : List (DataW H)}, d ∈ ds → x ∈ DataW.weightsAll P e ds
  | [], h => by cases h
  | d' :: r, h => by
    simp only [DataW.weightsAll, List.mem_append]
    simp only [List.mem_cons] at h
    rcases h with rfl | h
    · exact .inl hx
    · exact .inr (mem_weightsAll hx h)
section
variable {H : Type} {enc : TypeId × Value → H} {W : World} {base : Nat} {r : Reach} {b0 : Nat}
set_option maxRecDepth 100000 in
theorem ints_row {sp : Nat → Bool} {fuel : Nat} {v : Value} {y : DataW H × List MemPlace} (h : DataW.trod enc Tryd.prog W base sp true fuel 38 [v] = some y) :
    ∃ A n c xs, v = .slice A n c ∧ Row W (.slice A n c) (iV xs) ∧ (∀ z ∈ xs, inI z) ∧ ((∀ q ∈ y.1.weights Tryd.prog 38, q ≤ reachBytes) → xs.length ≤ 140737488355328) := by
  rcases open_ints Tryd.underlying38 Tryd.underlying3 (by kernel_rfl) h with ⟨h1, _⟩ | ⟨a, len, cap, zs, h1, _, h2, h3, h4, h5, h6, h7⟩
  · injection h1 with h1
    exact ⟨none, 0, 0, [], h1, Row.nil W none 0 (by omega), (fun z hz => by cases hz), fun _ => by simp⟩
  · injection h1 with h1
    subst h1
    have hzl : len ≤ zs.length := by rw [h4]; split <;> omega
    refine ⟨some a, len, cap, zs.take len, rfl, ?_, ?_, ?_⟩
    · refine ⟨some a, cap, by rw [iV_len, List.length_take, Nat.min_eq_left hzl], by rw [iV_len, List.length_take]; omega, by unfold maxLen at h3; exact h3, fun hn => ?_⟩
      rw [iV_len, List.length_take] at hn
      obtain ⟨b, off, spot⟩ := a
      have hspot : spot = none := by simpa [Addr.add] using World.cell?_spot (h6 0 (by omega))
      subst hspot
      refine ⟨b, off, rfl, fun j u hj => ?_⟩
      have hjl : j < (iV (zs.take len)).length := (List.getElem?_eq_some_iff.1 hj).1
      rw [iV_len, List.length_take] at hjl
      have hc := h6 j (by omega)
      rw [show (⟨b, off, none⟩ : Addr).add j = ⟨b, off + j, none⟩ by simp [Addr.add]] at hc
      rw [hc]
      have h8 : (zs.take len)[j]? = some (zs.getD j 0) := by
        rw [List.getElem?_take, if_pos (by omega), List.getElem?_eq_getElem (by omega)]
        simp [List.getD, show j < zs.length by omega]
      rw [iV_get h8] at hj
      exact hj
    · intro z hz
      have hw := h7 z (List.mem_of_mem_take hz)
      have := (Lit.wf_int_iff' .i64 z).1 hw
      exact this
    · intro hq
      have hw := hq (((lits .i64 (zs.take len) : List (DataW H)).length + (lits .i64 (zs.drop len) : List (DataW H)).length) * Tryd.prog.bytesOf 3) (by
        rw [h5]; simp only [DataW.weights, Tryd.underlying38]; simp)
      have hb : Tryd.prog.bytesOf 3 = 8 := by kernel_rfl
      rw [hb] at hw
      unfold reachBytes at hw
      have hl1 : (lits .i64 (zs.take len) : List (DataW H)).length = (zs.take len).length := by simp [lits]
      have hl2 : (lits .i64 (zs.drop len) : List (DataW H)).length = (zs.drop len).length := by simp [lits]
      rw [hl1] at hw
      omega
set_option maxRecDepth 100000 in
theorem open_cmds2 {v : Value} {d : DataW H} {p : List MemPlace} (hv : Value.okWide Tryd.prog W r b0 23 v) (h : DataW.Trod enc Tryd.prog W base (fun _ => true) true 23 v d p)
    (hw : ∀ q ∈ d.weights Tryd.prog 23, q ≤ reachBytes) : ∃ A n c l, v = .slice A n c ∧ CmdsV W (.slice A n c) l ∧ Mild l ∧ AllIn l ∧ (A = none → n = 0 ∧ c = 0) := by
  obtain ⟨A, n, c, rfl⟩ := okWide_slice Tryd.underlying23 hv
  obtain ⟨fuel, hf⟩ := h
  rcases open_slice Tryd.underlying23 hf with ⟨h1, _⟩ | ⟨a, len, cap, m, k, D, Pl, h1, _, h2, h3, h4, h5, h6⟩
  · have h1' : [Value.slice A n c] = [Value.slice none 0 0] := h1
    injection h1' with h1'
    injection h1' with e1 e2 e3
    subst e1 e2 e3
    exact ⟨none, 0, 0, [], rfl, CmdsV.nil W, (fun c hc => by cases hc), (fun c hc => by cases hc), fun _ => ⟨rfl, rfl⟩⟩
  · have h1' : [Value.slice A n c] = [Value.slice (some a) len cap] := h1
    injection h1' with h1'
    injection h1' with e1 e2 e3
    subst e1 e2 e3
    have hm : n ≤ m := by rw [h4]; split <;> omega
    have hd : d = .slice ((List.range n).map D) ((List.range (m - n)).map fun j => D (n + j)) := congrArg Prod.fst h5
    have each : ∀ i, ∃ x : Cmd, i < n → ∃ A' n' c', W.cell? (a.add (i * 4 + 0)) = some (.int .u8 (x.kind : Int)) ∧ W.cell? (a.add (i * 4 + 1)) = some (.string (str x.name)) ∧ W.cell? (a.add (i * 4 + 2)) = some (.slice A' n' c') ∧ W.cell? (a.add (i * 4 + 3)) = some (.string (str x.text)) ∧
        Row W (.slice A' n' c') (iV x.nums) ∧ (x.kind ≤ 255 ∧ x.name.length ≤ 140737488355328 ∧ x.nums.length ≤ 140737488355328 ∧ x.text.length ≤ 140737488355328) ∧ NumsIn x := by
      intro i
      by_cases hi : i < n
      · obtain ⟨cs', hcs, htr⟩ := h6 i (by omega)
        obtain ⟨v0, v1, v2, v3, y0, y1, y2, y3, fu, hD, c0, c1, c2, c3, t0, t1, t2, t3⟩ := cmd_of hcs htr
        rw [cmdCells, Go.Deep.add_add] at c0 c1 c2 c3
        have hD : D i = .agg [y0.1, y1.1, y2.1, y3.1] := hD
        obtain ⟨z0, q0, r0, wf0⟩ := DataW.trod_int Tryd.underlying5 t0
        obtain ⟨s1, q1, r1, _⟩ := DataW.trod_string Tryd.underlying9 t1
        obtain ⟨A', n', c', xs, q2, hrow, hin, hlen⟩ := ints_row t2
        obtain ⟨s3, q3, r3, _⟩ := DataW.trod_string Tryd.underlying9 t3
        injection q0 with q0
        injection q1 with q1
        injection q3 with q3
        subst q0 q1 q2 q3
        have hz := wf8 wf0
        have hmem : D i ∈ (List.range n).map D := List.mem_map.2 ⟨i, List.mem_range.2 hi, rfl⟩
        have hwt : ∀ q, q ∈ (D i).weights Tryd.prog 40 → q ≤ reachBytes := fun q hq => hw q (by
          rw [hd]; simp only [DataW.weights, Tryd.underlying23, List.mem_cons, List.mem_append]
          exact .inr (.inl (mem_weightsAll hq hmem)))
        rw [hD] at hwt
        simp only [DataW.weights, Tryd.underlying40, List.map_cons, List.map_nil, DataW.weightsEach, List.mem_append, r1, r3] at hwt
        have w1 := hwt s1.data.toList.length (.inr (.inl (by simp)))
        have w3 := hwt s3.data.toList.length (.inr (.inr (.inr (.inl (by simp)))))
        have w2 := hlen (fun q hq => hwt q (.inr (.inr (.inl hq))))
        unfold reachBytes at w1 w3
        refine ⟨⟨z0.toNat, s1.data.toList, xs, s3.data.toList⟩, fun _ => ⟨A', n', c', ?_, ?_, c2, ?_, hrow, ⟨by show z0.toNat ≤ 255; omega, by show s1.data.toList.length ≤ _; omega, w2, by show s3.data.toList.length ≤ _; omega⟩, hin⟩⟩
        · rw [show ((z0.toNat : Nat) : Int) = z0 by omega]; exact c0
        · show _ = some (Value.string (str s1.data.toList)); rw [str_of]; exact c1
        · show _ = some (Value.string (str s3.data.toList)); rw [str_of]; exact c3
      · exact ⟨⟨0, [], [], []⟩, fun h => absurd h hi⟩
    obtain ⟨f, hf'⟩ := Classical.axiomOfChoice each
    refine ⟨some a, n, c, (List.range n).map f, rfl, ?_, ?_, ?_, fun h => by cases h⟩
    · refine ⟨some a, c, by simp, by simpa using h2, by unfold maxLen at h3; exact h3, fun hn => ?_⟩
      simp at hn
      obtain ⟨b, off, spot⟩ := a
      obtain ⟨A', n', c', c0, _⟩ := hf' 0 hn
      have hspot : spot = none := by simpa [Addr.add] using World.cell?_spot c0
      subst hspot
      refine ⟨b, off, rfl, fun j x hj => ?_⟩
      have hjn : j < n := by simpa using (List.getElem?_eq_some_iff.1 hj).1
      rw [List.getElem?_map, List.getElem?_range hjn] at hj
      injection hj with hj
      subst hj
      obtain ⟨A1, n1, c1, k0, k1, k2, k3, k4, _⟩ := hf' j hjn
      have hadd : ∀ i, (⟨b, off, none⟩ : Addr).add i = ⟨b, off + i, none⟩ := fun i => by unfold Addr.add; split <;> simp_all
      rw [hadd] at k0 k1 k2 k3
      exact ⟨A1, n1, c1, k0, k1, k2, k3, k4⟩
    · intro x hx
      obtain ⟨i, hi, rfl⟩ := List.mem_map.1 hx
      obtain ⟨_, _, _, _, _, _, _, _, hb, _⟩ := hf' i (List.mem_range.1 hi)
      exact hb
    · intro x hx
      obtain ⟨i, hi, rfl⟩ := List.mem_map.1 hx
      obtain ⟨_, _, _, _, _, _, _, _, _, hb⟩ := hf' i (List.mem_range.1 hi)
      exact hb
end
section
variable {H : Type} {enc : TypeId × Value → H}
set_option maxRecDepth 100000 in
theorem open_cmds {W : World} {base : Nat} {r : Reach} {b0 : Nat} {v : Value} {d : DataW H} {p : List MemPlace} (hv : Value.okWide Tryd.prog W r b0 23 v) (h : DataW.Trod enc Tryd.prog W base (fun _ => true) true 23 v d p)
    (hw : ∀ q ∈ d.weights Tryd.prog 23, q ≤ reachBytes) : ∃ A n c l, v = .slice A n c ∧ CmdsV W (.slice A n c) l ∧ Mild l ∧ AllIn l := by
  obtain ⟨A, n, c, l, h1, h2, h3, h4, _⟩ := open_cmds2 hv h hw
  exact ⟨A, n, c, l, h1, h2, h3, h4⟩
theorem laidOutP : laidOutB Tryd.prog = true := by kernel_rfl
theorem cmdsReadable : Tryd.prog.readableRec 23 = true := by kernel_rfl
theorem cmdsSized : (23 : Nat) < Tryd.prog.types.size := of_decide_eq_true (by kernel_rfl)
theorem strReadable : Tryd.prog.readableRec 9 = true := by kernel_rfl
theorem strSized : (9 : Nat) < Tryd.prog.types.size := of_decide_eq_true (by kernel_rfl)
def Readable (ts : List TypeId) : Prop := ∀ t ∈ ts, Tryd.prog.readableRec t = true ∧ t < Tryd.prog.types.size
/-- all arguments read again as they were -/
theorem args_stay {W W' : World} (hb : Below W.heap.size W W') {sp : Nat → Bool} : ∀ {ts : List TypeId} {vs : List Value} {ds : List (DataW H)} {ps : List MemPlace}, Readable ts → (∀ x ∈ ps, x.block < W.heap.size) → (∀ x ∈ ps, sp x.block = true) →
    DataW.TrodAll enc Tryd.prog W 0 (fun _ => true) true ts vs ds ps → DataW.TrodAll enc Tryd.prog W' 0 sp true ts vs ds ps
  | [], [], [], _, _, _, _, h => h
  | t :: ts, v :: vs, d :: ds, ps, hr, hlt, hs, ⟨p, q, h1, h2, e⟩ => by
    subst e
    obtain ⟨r1, r2⟩ := hr t (by simp)
    refine ⟨p, q, ?_, args_stay hb (fun t ht => hr t (by simp [ht])) (fun x hx => hlt x (by simp [hx])) (fun x hx => hs x (by simp [hx])) h2, rfl⟩
    exact WideElems.Trod_stays laidOutP r1 r2 h1 (fun x hx => hb.same (hlt x (by simp [hx]))) (fun x hx => hs x (by simp [hx]))
end
set_option maxRecDepth 100000 in
/-- A law whose arguments are kept, and that leaves every block that it found as it was. -/
theorem post_stay {H : Type} {enc : TypeId × Value → H} {f : Func} {s : ChangeSpec} {W W' : World} {args : Array Value} {v : Value} {ds gs : List (DataW H)} {before : List MemPlace}
    (hW : DataW.Whole enc Tryd.prog f.params.toList s.vars false W args.toList ds gs before) (hvr : s.vars = []) (hr : Readable f.params.toList) (hfa : (s.fn H (ds ++ gs)).args = ds) (hfv : (s.fn H (ds ++ gs)).vars = [])
    (hres : ∀ (b : Nat) (sp : Nat → Bool) (hd : Bool), DataW.TrodAll enc Tryd.prog W' b sp hd f.resultTypes.toList (v.resultList f.resultTypes.size) (s.fn H (ds ++ gs)).results []) (hb : Below W.heap.size W W')
    (hok : ∀ (j : Nat) (t : TypeId) (r : Value), f.resultTypes[j]? = some t → (v.resultList f.resultTypes.size)[j]? = some r → Value.okWide Tryd.prog W' .any 0 t r) :
    s.post enc Tryd.prog f false true false false W args v W' := by
  have hlt : ∀ x ∈ before, x.block < W.heap.size := fun x hx => hW.lt x hx
  have hold : ∀ x ∈ before, (fun b => decide (b < W.heap.size)) x.block = true := fun x hx => by simpa using hlt x hx
  have hW0 := hW
  obtain ⟨p, q, hA, hV, hpq, hz, hn⟩ := hW0
  have hA : DataW.TrodAll enc Tryd.prog W 0 (fun _ => true) true f.params.toList args.toList ds p := hA
  rw [hvr] at hV
  obtain ⟨rfl, rfl⟩ := trodVars_none hV
  rw [List.append_nil] at hpq
  subst hpq
  have hargs : ∀ sp : Nat → Bool, (∀ x ∈ before, sp x.block = true) → DataW.TrodAll enc Tryd.prog W' 0 sp true f.params.toList args.toList (s.fn H (ds ++ [])).args before := fun sp hs => by
    rw [hfa]; exact args_stay hb hr hlt hs hA
  have hvars : ∀ sp : Nat → Bool, DataW.TrodVars enc Tryd.prog W' sp s.vars (s.fn H (ds ++ [])).vars [] := fun sp => by
    rw [hfv, hvr]; rfl
  refine ⟨ds, [], before, [], before, [], hW, hres _ _ _, hargs _ hold, hvars _, World.keptBut_mono (fun x hx => ⟨hx, Or.inr (Or.inl hx)⟩) (hb.frame (· ∈ before)), fun _ => ⟨hok, _, _, ([] ++ before) ++ [], ⟨[] ++ before, [], trodAll_append (hargs _ (fun _ _ => rfl)) (hres _ _ _), hvars _, rfl, ?_, ?_⟩, ?_⟩⟩
  · intro b off hp
    have hin : MemPlace.cell b off ∈ before := by simpa using hp
    rw [hb.frozen (hlt _ hin)]
    exact hz b off hin
  · intro ha
    simpa using hn ha
  · intro x hx _
    simpa using hx
end Go.Proofs.YtnbmmgeoglfbdaaDoor.Big
