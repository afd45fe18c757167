/- Lists of nodes among the arguments, opened. Walks: few and Tree of the law. Maps whose keys are pointers: any number of entries. Maps: what is kept; maps with keys of several parts. Walk: wellFormed of any tree. -/
import Derived.Test.YtljncdcjkdgkeaaDoorZAP
import Derived.Test.YtljncdcjkdgkeaaDoorZAA
import Derived.Test.YtljncdcjkdgkeaaDoorZAK
set_option linter.unusedVariables false
set_option linter.unusedSimpArgs false
namespace Go.Proofs.YtljncdcjkdgkeaaDoor.Big
open Go.ChangeShapes Go.WideShapes Go.ChangeAt Go.RowKit Go.Deep Go.Proofs.YtljncdcjkdgkeaaDoor.Lp
theorem ndCells : Tryd.prog.cellsOf 38 = 6 := by kernel_rfl
theorem intCells : Tryd.prog.cellsOf 3 = 1 := by kernel_rfl
theorem boolCells : Tryd.prog.cellsOf 4 = 1 := by kernel_rfl
theorem sl8Cells : Tryd.prog.cellsOf 26 = 1 := by kernel_rfl
section
variable {H : Type} {enc : TypeId × Value → H} {W : World} {base : Nat} {r : Reach} {b0 : Nat}
set_option maxRecDepth 100000 in
theorem u8s_trod {sp : Nat → Bool} {fuel : Nat} {v : Value} {y : DataW H × List MemPlace} (h : DataW.trod enc Tryd.prog W base sp true fuel 26 [v] = some y) :
    ∃ A n c xs, v = .slice A n c ∧ Lp.Row W (.slice A n c) (uV xs) ∧ (∀ z ∈ xs, z ≤ 255) := by
  rcases open_ints Tryd.underlying26 Tryd.underlying5 (by kernel_rfl) h with ⟨h1, _⟩ | ⟨a, len, cap, zs, h1, _, h2, h3, h4, h5, h6, h7⟩
  · injection h1 with h1
    exact ⟨none, 0, 0, [], h1, Row.nil W none 0 (by omega), (fun z hz => by cases hz)⟩
  · injection h1 with h1
    subst h1
    have hzl : len ≤ zs.length := by rw [h4]; split <;> omega
    have h8 : ∀ z ∈ zs.take len, 0 ≤ z ∧ z ≤ 255 := fun z hz => wf8 (h7 z (List.mem_of_mem_take hz))
    refine ⟨some a, len, cap, (zs.take len).map Int.toNat, rfl, ?_, nat_8 h8⟩
    rw [← kV_nat h8]
    refine ⟨some a, cap, by rw [kV_len, List.length_take, Nat.min_eq_left hzl], by rw [kV_len, List.length_take]; omega, by unfold maxLen at h3; exact h3, fun hn => ?_⟩
    rw [kV_len, List.length_take] at hn
    obtain ⟨b, off, spot⟩ := a
    have hspot : spot = none := by simpa [Addr.add] using World.cell?_spot (h6 0 (by omega))
    subst hspot
    refine ⟨b, off, rfl, fun j u hj => ?_⟩
    have hjl : j < (kV .u8 (zs.take len)).length := (List.getElem?_eq_some_iff.1 hj).1
    rw [kV_len, List.length_take] at hjl
    have hc := h6 j (by omega)
    rw [show (⟨b, off, none⟩ : Addr).add j = ⟨b, off + j, none⟩ by simp [Addr.add]] at hc
    rw [hc]
    have h9 : (zs.take len)[j]? = some (zs.getD j 0) := by
      rw [List.getElem?_take, if_pos (by omega), List.getElem?_eq_getElem (by omega)]
      simp [List.getD, show j < zs.length by omega]
    rw [kV_get h9] at hj
    exact hj
set_option maxRecDepth 100000 in
/-- one node among the arguments, read -/
theorem nd_of {sp : Nat → Bool} {fuel : Nat} {a : Addr} {cs : List Value} {x : DataW H × List MemPlace}
    (hc : W.cells? base a (Tryd.prog.cellsOf 38) = some cs) (h : DataW.trod enc Tryd.prog W base sp true fuel 38 cs = some x) :
    ∃ (v0 v1 v2 v3 v4 v5 : Value) (y0 y1 y2 y3 y4 y5 : DataW H × List MemPlace) (n : Nat), x.1 = .agg [y0.1, y1.1, y2.1, y3.1, y4.1, y5.1] ∧ W.cell? (a.add 0) = some v0 ∧ W.cell? (a.add 1) = some v1 ∧ W.cell? (a.add 2) = some v2 ∧ W.cell? (a.add 3) = some v3 ∧ W.cell? (a.add 4) = some v4 ∧ W.cell? (a.add 5) = some v5 ∧
      DataW.trod enc Tryd.prog W base sp true n 3 [v0] = some y0 ∧ DataW.trod enc Tryd.prog W base sp true n 3 [v1] = some y1 ∧ DataW.trod enc Tryd.prog W base sp true n 4 [v2] = some y2 ∧ DataW.trod enc Tryd.prog W base sp true n 22 [v3] = some y3 ∧ DataW.trod enc Tryd.prog W base sp true n 26 [v4] = some y4 ∧ DataW.trod enc Tryd.prog W base sp true n 4 [v5] = some y5 := by
  obtain ⟨ys, n, _, hx, hl, hyl, hf⟩ := DataW.trod_struct Tryd.underlying38 h
  rw [ndCells] at hc hl
  obtain ⟨_, _, hat⟩ := World.cells?_some hc
  match cs, hl, hat, hf with
  | [v0, v1, v2, v3, v4, v5], _, hat, hf =>
    match ys, hyl, hx, hf with
    | [y0, y1, y2, y3, y4, y5], _, hx, hf =>
      have f0 := hf 0 _ rfl
      have f1 := hf 1 _ rfl
      have f2 := hf 2 _ rfl
      have f3 := hf 3 _ rfl
      have f4 := hf 4 _ rfl
      have f5 := hf 5 _ rfl
      change DataW.trod enc Tryd.prog W base sp true n 3 (List.take (Tryd.prog.cellsOf 3) (List.drop 0 [v0, v1, v2, v3, v4, v5])) = some y0 at f0
      change DataW.trod enc Tryd.prog W base sp true n 3 (List.take (Tryd.prog.cellsOf 3) (List.drop 1 [v0, v1, v2, v3, v4, v5])) = some y1 at f1
      change DataW.trod enc Tryd.prog W base sp true n 4 (List.take (Tryd.prog.cellsOf 4) (List.drop 2 [v0, v1, v2, v3, v4, v5])) = some y2 at f2
      change DataW.trod enc Tryd.prog W base sp true n 22 (List.take (Tryd.prog.cellsOf 22) (List.drop 3 [v0, v1, v2, v3, v4, v5])) = some y3 at f3
      change DataW.trod enc Tryd.prog W base sp true n 26 (List.take (Tryd.prog.cellsOf 26) (List.drop 4 [v0, v1, v2, v3, v4, v5])) = some y4 at f4
      change DataW.trod enc Tryd.prog W base sp true n 4 (List.take (Tryd.prog.cellsOf 4) (List.drop 5 [v0, v1, v2, v3, v4, v5])) = some y5 at f5
      rw [intCells] at f0 f1
      rw [boolCells] at f2 f5
      rw [sliCells] at f3
      rw [sl8Cells] at f4
      exact ⟨v0, v1, v2, v3, v4, v5, y0, y1, y2, y3, y4, y5, n, congrArg Prod.fst hx, hat (i := 0) (by omega), hat (i := 1) (by omega), hat (i := 2) (by omega), hat (i := 3) (by omega), hat (i := 4) (by omega), hat (i := 5) (by omega), f0, f1, f2, f3, f4, f5⟩
set_option maxRecDepth 100000 in
theorem nds_row {v : Value} {d : DataW H} {p : List MemPlace} (h : DataW.Trod enc Tryd.prog W base (fun _ => true) true 34 v d p) (hv : Value.okWide Tryd.prog W r b0 34 v) (hb : Rows.uptoBulk d ≤ 1048576) :
    ∃ l : List ND, NodesV W v l ∧ ∀ x ∈ l, okN x ∧ Lp.fit x.fl = true := by
  obtain ⟨A0, n0, c0, rfl⟩ := okWide_slice Tryd.underlying34 hv
  obtain ⟨fuel, h⟩ := h
  rcases open_slice Tryd.underlying34 h with ⟨h1, _⟩ | ⟨a, len, cap, m, k, D, Pl, h1, _, h2, h3, h4, h5, h6⟩
  · have h1 : [Value.slice A0 n0 c0] = [Value.slice none 0 0] := h1
    injection h1 with h1
    exact ⟨[], ⟨none, 0, h1, by simp, by omega, fun h => absurd h (by simp)⟩, fun x hx => by cases hx⟩
  · have h1 : [Value.slice A0 n0 c0] = [Value.slice (some a) len cap] := h1
    injection h1 with h1
    injection h1 with e1 e2 e3
    subst e1 e2 e3
    have hm : n0 ≤ m := by rw [h4]; split <;> omega
    have hd : d = .slice ((List.range n0).map D) ((List.range (m - n0)).map fun j => D (n0 + j)) := congrArg Prod.fst h5
    have hbs := bulk_slice ((List.range n0).map D) ((List.range (m - n0)).map fun j => D (n0 + j))
    rw [← hd] at hbs
    have each : ∀ i, ∃ x : ND, i < n0 → ∃ An cn Ad cd, W.cell? (a.add (i * 6 + 0)) = some (.int .i64 x.var) ∧ W.cell? (a.add (i * 6 + 1)) = some (.int .i64 x.fl) ∧ W.cell? (a.add (i * 6 + 2)) = some (.bool x.em) ∧ W.cell? (a.add (i * 6 + 3)) = some (.slice An x.num.length cn) ∧ W.cell? (a.add (i * 6 + 4)) = some (.slice Ad x.den.length cd) ∧ W.cell? (a.add (i * 6 + 5)) = some (.bool x.kids) ∧
        Lp.Row W (.slice An x.num.length cn) (wV x.num) ∧ Lp.Row W (.slice Ad x.den.length cd) (uV x.den) ∧ okN x ∧ Lp.fit x.fl = true := by
      intro i
      by_cases hi : i < n0
      · obtain ⟨cs', hcs, htr⟩ := h6 i (by omega)
        obtain ⟨v0, v1, v2, v3, v4, v5, y0, y1, y2, y3, y4, y5, fu, hD, c0, c1, c2, c3, c4, c5, t0, t1, t2, t3, t4, t5⟩ := nd_of hcs htr
        rw [ndCells, Go.Deep.add_add] at c0 c1 c2 c3 c4 c5
        have hD : D i = .agg [y0.1, y1.1, y2.1, y3.1, y4.1, y5.1] := hD
        obtain ⟨z0, q0, -, wf0⟩ := DataW.trod_int Tryd.underlying3 t0
        obtain ⟨z1, q1, -, wf1⟩ := DataW.trod_int Tryd.underlying3 t1
        obtain ⟨b2, q2, -⟩ := DataW.trod_bool Tryd.underlying4 t2
        obtain ⟨A3, n3, c3', xs, q3, hrow3, hin3, hlen3⟩ := i32s_row t3
        obtain ⟨A4, n4, c4', ys, q4, hrow4, hin4⟩ := u8s_trod t4
        obtain ⟨b5, q5, -⟩ := DataW.trod_bool Tryd.underlying4 t5
        injection q0 with q0
        injection q1 with q1
        injection q2 with q2
        injection q5 with q5
        subst q0 q1 q2 q3 q4 q5
        have hmem : D i ∈ (List.range n0).map D := List.mem_map.2 ⟨i, List.mem_range.2 hi, rfl⟩
        have hp := bulk_part hmem
        rw [hD] at hp
        have ha := bulk_agg [y0.1, y1.1, y2.1, y3.1, y4.1, y5.1]
        have hq : Rows.uptoBulk y3.1 ≤ Rows.uptoBulkAll [y0.1, y1.1, y2.1, y3.1, y4.1, y5.1] := bulk_part (by simp)
        obtain ⟨hn3, -⟩ := hrow3.inj
        rw [wV_len] at hn3
        subst hn3
        obtain ⟨hn4, -⟩ := hrow4.inj
        rw [uV_len] at hn4
        subst hn4
        exact ⟨⟨z0, z1, b2, xs, ys, b5⟩, fun _ => ⟨A3, c3', A4, c4', c0, c1, c2, c3, c4, c5, hrow3, hrow4, ⟨hin3, hin4, by show xs.length ≤ 1048576; omega⟩, fit_iff.2 (wf64 wf1)⟩⟩
      · exact ⟨⟨0, 0, false, [], [], false⟩, fun h => absurd h hi⟩
    obtain ⟨f, hf'⟩ := Classical.axiomOfChoice each
    refine ⟨(List.range n0).map f, ⟨some a, c0, by simp, by simpa using h2, by unfold maxLen at h3; exact h3, fun hn => ?_⟩, ?_⟩
    · simp at hn
      obtain ⟨b, off, spot⟩ := a
      obtain ⟨An, cn, Ad, cd, c00, _⟩ := hf' 0 hn
      have hspot : spot = none := by simpa [Addr.add] using World.cell?_spot c00
      subst hspot
      refine ⟨b, off, rfl, fun j x hj => ?_⟩
      have hjn : j < n0 := by simpa using (List.getElem?_eq_some_iff.1 hj).1
      rw [List.getElem?_map, List.getElem?_range hjn] at hj
      injection hj with hj
      subst hj
      obtain ⟨An, cn, Ad, cd, k0, k1, k2, k3, k4, k5, k6, k7, _⟩ := hf' j hjn
      have hadd : ∀ i, (⟨b, off, none⟩ : Addr).add i = ⟨b, off + i, none⟩ := fun i => by unfold Addr.add; split <;> simp_all
      rw [hadd] at k0 k1 k2 k3 k4 k5
      exact ⟨An, cn, Ad, cd, k0, k1, k2, k3, k4, k5, k6, k7⟩
    · intro x hx
      obtain ⟨i, hi, rfl⟩ := List.mem_map.1 hx
      obtain ⟨_, _, _, _, _, _, _, _, _, _, _, _, hb⟩ := hf' i (List.mem_range.1 hi)
      exact hb
end
end Go.Proofs.YtljncdcjkdgkeaaDoor.Big
namespace Go.Proofs.YtljncdcjkdgkeaaDoor.Lp
open Go.RowKit Go.Proofs.YtljncdcjkdgkeaaDoor.Big Go.Proofs.YtljncdcjkdgkeaaDoor.Rt

def fewB (l : List ND) : Bool := decide (l.length ≤ 40) && l.all (fun x => decide (x.num.length ≤ 12))
theorem fewB_iff {l : List ND} : fewB l = true ↔ l.length ≤ 40 ∧ ∀ x ∈ l, x.num.length ≤ 12 := by
  unfold fewB
  simp
set_option maxHeartbeats 2000000 in
set_option maxRecDepth 100000 in
theorem few_b (v : Value) (l : List ND) (w : World) (hv : NodesV w v l) :
    Calls Tryd.prog 16 #[v] w (ValPost w (.int .i64 (if fewB l then 1 else 0))) := by
  obtain ⟨A, c, rfl, hlc, hc, hel⟩ := hv
  obtain ⟨F, hF⟩ : ∃ F, F = fewB l := ⟨_, rfl⟩
  rw [← hF]
  obtain ⟨R, hR⟩ : ∃ R : Int, R = if F then 1 else 0 := ⟨_, rfl⟩
  have HR0 : Hid (F = false → R = 0) := Lib.hid (fun h => by rw [hR, h]; rfl)
  have HR1 : Hid (F = true → R = 1) := Lib.hid (fun h => by rw [hR, h]; rfl)
  rw [← hR]
  have HF := Lib.hid hF
  clear hR hF
  obtain ⟨n, hn⟩ : ∃ n, n = l.length := ⟨_, rfl⟩
  rw [← hn] at hlc hel ⊢
  have HN := Lib.hid hn
  have HEL := Lib.hid hel
  clear hn hel
  go_enter Tryd.func16, Tryd.ntmps16
  by_cases h1 : n ≤ 40
  case neg =>
    have e1 : decide ((40 : Int) < (n : Int)) = true := by simp; omega
    have HE : Hid (F = false) := Lib.hid (by
      rw [HF.out]
      cases e : fewB l with
      | false => rfl
      | true => exact absurd (HN.out ▸ (fewB_iff.1 e).1) h1)
    clear h1
    go_wp2_with fail
    go_ret
    exact ⟨by rw [HR0.out HE.out] <;> rfl, Ext.refl w⟩
  case pos =>
  have e1 : decide ((40 : Int) < (n : Int)) = false := by simp; omega
  go_upto_region 3 with fail
  clear e1
  go_wp2_with fail
  go_loopw [3] (fun i wr => ∃ j : Nat, j ≤ n ∧ i = .int .i64 j ∧ Hid (∀ k x, k < j → l[k]? = some x → x.num.length ≤ 12) ∧ wr = w) (fun i _ => n - (intOf i).toNat)
  case atStart => exact ⟨0, by omega, rfl, Lib.hid (fun k x hk => absurd hk (by omega)), rfl⟩
  case round =>
    obtain ⟨j, hj, rfl, HJ, rfl⟩ := hrel
    by_cases hlt : j < n
    · obtain ⟨b, off, rfl, hnd⟩ := HEL.out (by omega)
      obtain ⟨x, hx⟩ : ∃ x, l[j]? = some x := ⟨_, List.getElem?_eq_getElem (by have := HN.out; omega)⟩
      obtain ⟨An, cn, Ad, cd, g0, g1, g2, g3, g4, g5, r1, r2⟩ := hnd j x hx
      obtain ⟨m, hm⟩ : ∃ m, m = x.num.length := ⟨_, rfl⟩
      rw [← hm] at g3
      have i1 : (0 : Int) ≤ (j : Int) := by omega
      have i2 : (j : Int) < (n : Int) := by omega
      clear g0 g1 g2 g4 g5 r1 r2 hnd
      by_cases h3 : m ≤ 12
      · have e3 : decide ((12 : Int) < (m : Int)) = false := by simp; omega
        have HN1 : Hid (∀ k x, k < j + 1 → l[k]? = some x → x.num.length ≤ 12) := Lib.hid (fun k y hk hy => by
          by_cases e : k = j
          · subst e
            rw [hx] at hy
            injection hy with hy
            rw [← hy]; omega
          · exact HJ.out k y (by omega) hy)
        clear h3 hm hx
        go_wp2_with fail
        go_roundw
        case rel => exact ⟨j + 1, by omega, by go_num, HN1, trivial⟩
        case measure => simp [intOf]; omega
      · have e3 : decide ((12 : Int) < (m : Int)) = true := by simp; omega
        have HE : Hid (F = false) := Lib.hid (by
          rw [HF.out]
          cases e : fewB l with
          | false => rfl
          | true => exact absurd (hm ▸ (fewB_iff.1 e).2 x (List.mem_of_getElem? hx)) h3)
        clear h3 hm hx
        go_wp2_with fail
        go_ret
        exact ⟨by rw [HR0.out HE.out] <;> rfl, Ext.refl _⟩
    · obtain rfl : j = n := by omega
      have HE : Hid (F = true) := Lib.hid (by
        rw [HF.out, fewB_iff]
        refine ⟨by rw [← HN.out]; exact h1, fun x hx => ?_⟩
        obtain ⟨k, hk, rfl⟩ := List.mem_iff_getElem.1 hx
        exact HJ.out k _ (by rw [HN.out]; exact hk) (List.getElem?_eq_getElem hk))
      go_wp2_with fail
      go_ret
      exact ⟨by rw [HR1.out HE.out] <;> rfl, Ext.refl _⟩
theorem Tree_b (v : Value) (l : List ND) (w : World) (hv : NodesV w v l) (hok : ∀ x ∈ l, okN x) :
    Calls Tryd.prog 17 #[v] w (fun e w' => ∃ A, e = .returned (.pointer A) ∧ TreeI w' (buildT 31 l).1 A w.heap.size w'.heap.size ∧ Ext w w') := by
  have h := build_b 31 l 0 v w w (by omega) (Ext.refl w) hv hok
  go_enter Tryd.func17, Tryd.ntmps17
  go_wp2_with fail
  refine h.mono ?_
  rintro e w1 ⟨A, v1, rfl, hT, hv1, hx⟩
  clear h
  go_wp2_with fail
  go_ret
  exact ⟨A, rfl, hT, hx⟩
end Go.Proofs.YtljncdcjkdgkeaaDoor.Lp
namespace Go.Proofs.YtljncdcjkdgkeaaDoor.Big
open Go.RowKit

def keyP (k : Nat) : Value := .pointer (some ⟨k, 0, none⟩)
/-- block r is a map with these keys and values -/
def PMap (w : World) (r : Nat) (S : List (Nat × Value)) : Prop :=
  ∃ es clock, w.heap[r]? = some (.map es clock) ∧ es.toList.map (fun e => (e.key, e.val)) = S.map fun p => (keyP p.1, p.2)
def CellsB (w : World) (k : Nat) : Prop := ∃ cs E, w.heap[k]? = some (.cells cs E (0, 0))
def pfind (k : Nat) : List (Nat × Value) → Option (Nat × Value)
  | [] => none
  | p :: S => if p.1 = k then some (0, p.2) else (pfind k S).map fun q => (q.1 + 1, q.2)
/-- a world in which block r alone is another map -/
def MapTo (r : Nat) (w w' : World) : Prop := (∃ es c, w.heap[r]? = some (.map es c)) ∧ ∃ es c, w' = mapWorld w r es c
section
variable {P : Program} {w w' : World} {mt kt et pt : TypeId} {r : Nat} {S : List (Nat × Value)} {j : TypeInfo}
theorem MapTo.far (h : MapTo r w w') {k : Nat} (hk : k ≠ r) : w'.heap[k]? = w.heap[k]? := by
  obtain ⟨⟨es, c, h1⟩, es', c', rfl⟩ := h
  exact mapWorld_far h1 es' c' hk
theorem MapTo.size (h : MapTo r w w') : w'.heap.size = w.heap.size := by
  obtain ⟨⟨es, c, h1⟩, es', c', rfl⟩ := h
  simp [mapWorld]
theorem MapTo.ext {a : World} (h : MapTo r w w') (k : Ext a w) (hr : a.heap.size ≤ r) : Ext a w' := by
  have hs := h.size
  have hf := fun i => h.far (k := i)
  obtain ⟨⟨es, c, h1⟩, es', c', rfl⟩ := h
  exact ⟨k.os, k.tape, k.output, by have := k.size; omega, fun i hi => (hf i (by omega)).trans (Below.block k i hi)⟩
theorem MapTo.box (h : MapTo r w w') {b : Nat} {E : TypeId} {cs : Array Value} (hb : Box w b E cs) : Box w' b E cs := by
  have hne : b ≠ r := by
    rintro rfl
    obtain ⟨⟨es, c, h1⟩, -⟩ := h
    unfold Box at hb
    rw [hb] at h1; cases h1
  exact (h.far hne).trans hb
theorem MapTo.cells (h : MapTo r w w') {b : Nat} (hb : CellsB w b) : CellsB w' b := by
  obtain ⟨cs, E, hb⟩ := hb
  exact ⟨cs, E, h.box (E := E) (cs := cs) hb⟩
theorem PMap.lt (h : PMap w r S) : r < w.heap.size := by
  obtain ⟨es, c, h1, -⟩ := h
  rcases Nat.lt_or_ge r w.heap.size with h' | h'
  · exact h'
  · rw [Array.getElem?_eq_none h'] at h1; cases h1
theorem PMap.ext (h : PMap w r S) (k : Ext w w') : PMap w' r S := by
  have hl := h.lt
  obtain ⟨es, c, h1, h2⟩ := h
  exact ⟨es, c, (Below.block k r hl).trans h1, h2⟩
theorem PMap.new (w : World) : PMap (w.alloc (.map #[] 0)) w.heap.size [] := ⟨#[], 0, heap_alloc_new w _, rfl⟩
theorem PMap.nobox (h : PMap w r S) {b : Nat} {E : TypeId} {cs : Array Value} (hb : Box w b E cs) : b ≠ r := by
  rintro rfl
  obtain ⟨es, c, h1, -⟩ := h
  unfold Box at hb
  rw [hb] at h1; cases h1
theorem CellsB.ext {k : Nat} (h : CellsB w k) (x : Ext w w') : CellsB w' k := by
  obtain ⟨cs, E, h1⟩ := h
  exact ⟨cs, E, Box.ext (E := E) (cs := cs) h1 x⟩
theorem run_equal_ptrs (hk : P.underlying kt = some (.pointer pt)) (hj : P.info? pt = some j) (hsz : j.size ≠ 0) {a b : Nat} (ha : CellsB w a) (hb : CellsB w b) : (Op.equal kt (keyP a) (keyP b)).run P w = .ok (decide (b = a)) w := by
  unfold keyP
  by_cases e : b = a
  · subst e
    rw [run_equal_ptr hk hj]; simp
  · obtain ⟨ca, ta, ha⟩ := ha
    obtain ⟨cb, tb, hb⟩ := hb
    have hne : (⟨a, 0, none⟩ : Addr) ≠ ⟨b, 0, none⟩ := fun h => e (by injection h with h; exact h.symm)
    have h : ∀ d : Nat, (Op.equalIn (d + 1) kt (.pointer (some ⟨a, 0, none⟩)) (.pointer (some ⟨b, 0, none⟩))).run P w = .ok false w := fun d => by
      simp [Op.equalIn, run_underlying hk, sizeOf, typeInfo, hj, hsz, run_sameAddr_other w hne ha hb]
    simp [Op.equal, Op.maxDepth, h 9999, e]
theorem run_findAsking_p (hk : P.underlying kt = some (.pointer pt)) (hj : P.info? pt = some j) (hsz : j.size ≠ 0) (k : Nat) (hkB : CellsB w k) (es : List MapEntry) (S : List (Nat × Value)) (i : Nat) (h : es.map (fun e => (e.key, e.val)) = S.map fun p => (keyP p.1, p.2)) (hS : ∀ p ∈ S, CellsB w p.1) :
    (Instr.findAsking kt (keyP k) es i).run P w = .ok ((pfind k S).map fun q => (i + q.1, q.2)) w := by
  induction es generalizing S i with
  | nil =>
    cases S with
    | nil => simp [Instr.findAsking, pfind]
    | cons p S => simp at h
  | cons e es ih =>
    cases S with
    | nil => simp at h
    | cons p S =>
      simp only [List.map_cons, List.cons.injEq, Prod.mk.injEq] at h
      obtain ⟨⟨h1, h2⟩, h3⟩ := h
      have he := run_equal_ptrs (P := P) (w := w) hk hj hsz hkB (hS p (by simp))
      have hi := ih S (i + 1) h3 (fun q hq => hS q (by simp [hq]))
      unfold pfind
      by_cases e1 : p.1 = k
      · rw [e1] at he h1
        simp only [decide_true] at he
        simp [Instr.findAsking, h1, h2, he, e1]
      · rw [decide_eq_false e1] at he
        rw [if_neg e1]
        simp only [Instr.findAsking, h1, Sem.run_bind, he, Result.andThen, Bool.false_eq_true, if_false, hi]
        congr 1
        cases pfind k S with
        | none => rfl
        | some q => simp; omega
theorem run_findKey_p (hk : P.underlying kt = some (.pointer pt)) (hj : P.info? pt = some j) (hsz : j.size ≠ 0) (k : Nat) (hkB : CellsB w k) (es : List MapEntry) (S : List (Nat × Value)) (h : es.map (fun e => (e.key, e.val)) = S.map fun p => (keyP p.1, p.2)) (hS : ∀ p ∈ S, CellsB w p.1) :
    (Instr.findKey kt (keyP k) es).run P w = .ok (pfind k S) w := by
  cases es with
  | nil =>
    cases S with
    | nil => exact run_findKey_empty hk _
    | cons p S => simp at h
  | cons e es =>
    cases S with
    | nil => simp at h
    | cons p S =>
      have hf := run_findAsking_p hk hj hsz k hkB (e :: es) (p :: S) 0 h hS
      have he : e.key = keyP p.1 := by
        simp only [List.map_cons, List.cons.injEq, Prod.mk.injEq] at h
        exact h.1.1
      have hn : Instr.findNow (.pointer pt) (keyP k) (e :: es) 0 = none := by
        simp [Instr.findNow, he, keyP, Instr.sameNow]
      simp only [Nat.zero_add] at hf
      have hid : ((pfind k (p :: S)).map fun q => (q.1, q.2)) = pfind k (p :: S) := by cases pfind k (p :: S) <;> rfl
      rw [hid] at hf
      simp only [Instr.findKey, Sem.run_bind, run_underlying hk, Result.andThen, hn]
      exact hf
theorem run_lookup_p {z : Value} (hm : P.underlying mt = some (.map kt et)) (hk : P.underlying kt = some (.pointer pt)) (hj : P.info? pt = some j) (hsz : j.size ≠ 0) (hb : PMap w r S) (hS : ∀ p ∈ S, CellsB w p.1) (k : Nat) (hkB : CellsB w k) (hz : (zeroValue et).run P w = .ok z w) :
    (∀ ok, (Instr.lookup mt (.map (some r)) (.pointer (some ⟨k, 0, none⟩)) ok).run P w = .ok (match pfind k S with | some q => (if ok then .tuple #[q.2, .bool true] else q.2) | none => (if ok then .tuple #[z, .bool false] else z)) w) := by
  intro ok
  obtain ⟨es, c, h1, h2⟩ := hb
  have hf := run_findKey_p hk hj hsz k hkB es.toList S h2 hS
  unfold keyP at hf
  cases e : pfind k S with
  | none =>
    rw [e] at hf
    cases ok <;> simp [Instr.lookup, run_underlying hm, Result.andThen, MapKept.run_getObj_map h1, run_checkKey_ptr (n := 9999) hk, hf, hz]
  | some q =>
    rw [e] at hf
    cases ok <;> simp [Instr.lookup, run_underlying hm, Result.andThen, MapKept.run_getObj_map h1, run_checkKey_ptr (n := 9999) hk, hf]
theorem pfind_none_iff {k : Nat} {S : List (Nat × Value)} : pfind k S = none ↔ ∀ p ∈ S, p.1 ≠ k := by
  induction S with
  | nil => simp [pfind]
  | cons p S ih =>
    unfold pfind
    by_cases e : p.1 = k
    · simp [e]
    · simp [e, ih]
/-- a key that is not there -/
theorem run_update_new (hm : P.underlying mt = some (.map kt et)) (hk : P.underlying kt = some (.pointer pt)) (hj : P.info? pt = some j) (hsz : j.size ≠ 0) (hb : PMap w r S) (hS : ∀ p ∈ S, CellsB w p.1) (k : Nat) (hkB : CellsB w k) (hno : ∀ p ∈ S, p.1 ≠ k) (v : Value) :
    ∃ w', (Instr.mapUpdate mt (.map (some r)) (.pointer (some ⟨k, 0, none⟩)) v).run P w = .ok () w' ∧ PMap w' r (S ++ [(k, v)]) ∧ MapTo r w w' := by
  obtain ⟨es, c, h1, h2⟩ := hb
  have hf := run_findKey_p hk hj hsz k hkB es.toList S h2 hS
  rw [pfind_none_iff.2 hno] at hf
  unfold keyP at hf
  refine ⟨mapWorld w r (es.push { key := keyP k, val := v, born := c }) (c + 1), ?_, ⟨_, _, mapWorld_map h1 _ _, ?_⟩, ⟨⟨es, c, h1⟩, _, _, rfl⟩⟩
  · simp [Instr.mapUpdate, run_underlying hm, Result.andThen, MapKept.run_getObj_map h1, run_checkKey_ptr (n := 9999) hk, hf, MapKept.run_setObj_map _ h1, mapWorld, keyP]
  · simp [h2]
/-- a key that is there: the last one -/
theorem run_update_at (hm : P.underlying mt = some (.map kt et)) (hk : P.underlying kt = some (.pointer pt)) (hj : P.info? pt = some j) (hsz : j.size ≠ 0) (k : Nat) (A B : List (Nat × Value)) (v0 : Value) (hb : PMap w r (A ++ (k, v0) :: B)) (hS : ∀ p ∈ A ++ (k, v0) :: B, CellsB w p.1) (hno : ∀ p ∈ A, p.1 ≠ k) (v : Value) :
    ∃ w', (Instr.mapUpdate mt (.map (some r)) (.pointer (some ⟨k, 0, none⟩)) v).run P w = .ok () w' ∧ PMap w' r (A ++ (k, v) :: B) ∧ MapTo r w w' := by
  obtain ⟨es, c, h1, h2⟩ := hb
  have hf := run_findKey_p hk hj hsz k (hS (k, v0) (by simp)) es.toList _ h2 hS
  have hp : pfind k (A ++ (k, v0) :: B) = some (A.length, v0) := by
    clear hS h2 hf
    induction A with
    | nil => simp [pfind]
    | cons p A ih =>
      have h0 : p.1 ≠ k := hno p (by simp)
      simp [pfind, h0, ih (fun q hq => hno q (by simp [hq]))]
  rw [hp] at hf
  unfold keyP at hf
  have hat : es[A.length]? = some { key := keyP k, val := v0, born := ((es[A.length]?).map (·.born)).getD 0 } := by
    have h3 : (es.toList.map (fun e => (e.key, e.val)))[A.length]? = some (keyP k, v0) := by rw [h2]; simp
    rw [List.getElem?_map, Array.getElem?_toList] at h3
    cases e : es[A.length]? with
    | none => rw [e] at h3; cases h3
    | some x =>
      rw [e] at h3
      simp only [Option.map_some, Option.some.injEq, Prod.mk.injEq] at h3
      simp [← h3.1, ← h3.2]
  have hs : (Instr.keyThatStays (keyP k) (.pointer (some ⟨k, 0, none⟩))).run P w = .ok (.pointer (some ⟨k, 0, none⟩)) w := by
    simp [Instr.keyThatStays, Instr.sameBits, keyP]
  have hkey : ((es[A.length]?).map (·.key)).getD (.pointer (some ⟨k, 0, none⟩)) = keyP k := by rw [hat]; rfl
  refine ⟨mapWorld w r (es.modify A.length fun e => { e with key := .pointer (some ⟨k, 0, none⟩), val := v }) c, ?_, ⟨_, _, mapWorld_map h1 _ _, ?_⟩, ⟨⟨es, c, h1⟩, _, _, rfl⟩⟩
  · simp [Instr.mapUpdate, run_underlying hm, Result.andThen, MapKept.run_getObj_map h1, run_checkKey_ptr (n := 9999) hk, hf, hkey, hs, MapKept.run_setObj_map _ h1, mapWorld]
  · apply List.ext_getElem?
    intro i
    have h3 := congrArg (fun l : List (Value × Value) => l[i]?) h2
    simp only [List.getElem?_map, Array.getElem?_toList] at h3
    simp only [List.getElem?_map, Array.getElem?_toList, Array.getElem?_modify]
    by_cases e : A.length = i
    · subst e
      rw [if_pos rfl, hat]
      simp [keyP]
    · rw [if_neg e]
      have hg : (A ++ (k, v0) :: B)[i]? = (A ++ (k, v) :: B)[i]? := by
        rcases Nat.lt_or_ge i A.length with hl | hg
        · rw [List.getElem?_append_left hl, List.getElem?_append_left hl]
        · rw [List.getElem?_append_right hg, List.getElem?_append_right hg]
          obtain ⟨d, hd⟩ : ∃ d, i - A.length = d + 1 := ⟨i - A.length - 1, by omega⟩
          rw [hd]; rfl
      rw [← hg]
      cases e2 : es[i]? with
      | none => rw [e2] at h3; simpa using h3
      | some x => rw [e2] at h3; simpa using h3
end
end Go.Proofs.YtljncdcjkdgkeaaDoor.Big
namespace Go.Proofs.YtljncdcjkdgkeaaDoor.Lp
open Go.RowKit Go.Proofs.YtljncdcjkdgkeaaDoor.Big Go.Proofs.YtljncdcjkdgkeaaDoor.Rt

theorem MapTo.frC {r : Nat} {w w' : World} (h : MapTo r w w') {P : Nat → Prop} (hP : P r) : Fr P w w' := by
  have hs := h.size
  have hf := fun i => h.far (k := i)
  obtain ⟨⟨es, c, h1⟩, es', c', rfl⟩ := h
  refine ⟨rfl, rfl, rfl, by omega, fun k hk hne => hf k (fun e => hne (e ▸ hP)), fun b i z hz => ?_⟩
  by_cases e : b = r
  · subst e
    unfold World.cell? at hz
    rw [h1] at hz
    cases hz
  · exact (World.cell?_of_block (a := ⟨b, i, none⟩) (hf b e)).trans hz
theorem Fr.cellsC {P : Nat → Prop} {w w' : World} (h : Fr P w w') {k : Nat} (hk : CellsB w k) (hn : ¬ P k) : CellsB w' k := by
  obtain ⟨cs, E, h1⟩ := hk
  exact ⟨cs, E, h.row hn h1⟩
theorem PMap_cellsC {w : World} {r : Nat} {S : List (Nat × Value)} (h : PMap w r S) {k : Nat} (hk : CellsB w k) : k ≠ r := by
  obtain ⟨cs, E, h1⟩ := hk
  exact h.nobox (E := E) (cs := cs) h1
theorem pfind_ltC {k : Nat} {S : List (Nat × Value)} (h : ∀ p ∈ S, p.1 < k) : pfind k S = none := pfind_none_iff.2 fun p hp e => by have := h p hp; omega
theorem pfind_atC {k : Nat} {S B : List (Nat × Value)} {v : Value} (h : ∀ p ∈ S, p.1 < k) : pfind k (S ++ (k, v) :: B) = some (S.length, v) := by
  induction S with
  | nil => simp [pfind]
  | cons p S ih =>
    have h0 : p.1 ≠ k := by have := h p (by simp); omega
    simp [pfind, h0, ih (fun q hq => h q (by simp [hq]))]
theorem zeroNC (w : World) : (zeroValue 3).run Tryd.prog w = .ok (.int .i64 0) w := by kernel_rfl
theorem zeroBC (w : World) : (zeroValue 4).run Tryd.prog w = .ok (.bool false) w := by kernel_rfl
theorem infoNdC : (Tryd.prog.info? 41).map (·.size) = some 6 := by kernel_rfl
/-- a place of a walk: a node and its level -/
def plK (p : Nat × Int) : Value := .agg #[.pointer (some ⟨p.1, 0, none⟩), .int .i64 p.2]
/-- block r is a map with these places as keys -/
def QMap (w : World) (r : Nat) (S : List (Nat × Int)) : Prop := ∃ es clock, w.heap[r]? = some (.map es clock) ∧ es.toList.map (fun e => e.key) = S.map plK
theorem QMap.lt {w : World} {r : Nat} {S : List (Nat × Int)} (h : QMap w r S) : r < w.heap.size := by
  obtain ⟨es, c, h1, -⟩ := h
  rcases Nat.lt_or_ge r w.heap.size with h' | h'
  · exact h'
  · rw [Array.getElem?_eq_none h'] at h1; cases h1
theorem QMap.ext {w w' : World} {r : Nat} {S : List (Nat × Int)} (h : QMap w r S) (k : Ext w w') : QMap w' r S := by
  have hl := h.lt
  obtain ⟨es, c, h1, h2⟩ := h
  exact ⟨es, c, (Below.block k r hl).trans h1, h2⟩
theorem QMap.nobox {w : World} {r : Nat} {S : List (Nat × Int)} (h : QMap w r S) {b : Nat} {E : TypeId} {cs : Array Value} (hb : Box w b E cs) : b ≠ r := by
  rintro rfl
  obtain ⟨es, c, h1, -⟩ := h
  unfold Box at hb
  rw [hb] at h1; cases h1
theorem QMap.cells {w : World} {r : Nat} {S : List (Nat × Int)} (h : QMap w r S) {k : Nat} (hk : CellsB w k) : k ≠ r := by
  obtain ⟨cs, E, h1⟩ := hk
  exact h.nobox (E := E) (cs := cs) h1
theorem eq_place (w : World) {a b : Nat} (hne : a ≠ b) (x y : Int) (ha : CellsB w a) (hb : CellsB w b) : (Op.equal 104 (plK (a, x)) (plK (b, y))).run Tryd.prog w = .ok false w := by
  obtain ⟨j, hj, hsz⟩ := Option.map_eq_some_iff.1 infoNdC
  have hsz : j.size ≠ 0 := by omega
  obtain ⟨ca, ta, ha⟩ := ha
  obtain ⟨cb, tb, hb⟩ := hb
  have hne' : (⟨a, 0, none⟩ : Addr) ≠ ⟨b, 0, none⟩ := fun h => hne (by injection h)
  have hs : Tryd.prog.stoodInHeld 104 = false := by kernel_rfl
  have hq : ∀ d : Nat, (Op.equalIn (d + 1 + 1) 104 (plK (a, x)) (plK (b, y))).run Tryd.prog w = .ok false w := fun d => by
    have hu := run_underlying (w := w) Tryd.underlying104
    unfold plK
    have hpa : (part 33 #[.pointer (some ⟨a, 0, none⟩), .int .i64 x] 0).run Tryd.prog w = .ok (.pointer (some ⟨a, 0, none⟩)) w := by kernel_rfl
    have hpb : (part 33 #[.pointer (some ⟨b, 0, none⟩), .int .i64 y] 0).run Tryd.prog w = .ok (.pointer (some ⟨b, 0, none⟩)) w := by kernel_rfl
    simp [Op.equalIn.eq_2, hu, hs, Result.andThen, hpa, hpb, sizeOf, typeInfo, hj, hsz, run_sameAddr_other w hne' ha hb]
  exact hq 9998
theorem run_findAsking_q {w : World} (k : Nat) (z : Int) (hkB : CellsB w k) (es : List MapEntry) (S : List (Nat × Int)) (i : Nat) (h : es.map (fun e => e.key) = S.map plK) (hS : ∀ p ∈ S, CellsB w p.1 ∧ p.1 ≠ k) :
    (Instr.findAsking 104 (plK (k, z)) es i).run Tryd.prog w = .ok none w := by
  induction es generalizing S i with
  | nil => simp [Instr.findAsking]
  | cons e es ih =>
    cases S with
    | nil => simp at h
    | cons p S =>
      simp only [List.map_cons, List.cons.injEq] at h
      obtain ⟨h1, h3⟩ := h
      have hp := hS p (by simp)
      have he := eq_place w (Ne.symm hp.2) z p.2 hkB hp.1
      have hi := ih S (i + 1) h3 (fun q hq => hS q (by simp [hq]))
      simp only [Instr.findAsking, h1, Sem.run_bind, he, Result.andThen, Bool.false_eq_true, if_false, hi]
theorem run_findKey_q {w : World} (k : Nat) (z : Int) (hkB : CellsB w k) (es : List MapEntry) (S : List (Nat × Int)) (h : es.map (fun e => e.key) = S.map plK) (hS : ∀ p ∈ S, CellsB w p.1 ∧ p.1 ≠ k) :
    (Instr.findKey 104 (plK (k, z)) es).run Tryd.prog w = .ok none w := by
  cases es with
  | nil => exact run_findKey_nil Tryd.underlying104 _
  | cons e es =>
    have hf := run_findAsking_q k z hkB (e :: es) S 0 h hS
    cases S with
    | nil => simp at h
    | cons p S =>
      simp only [List.map_cons, List.cons.injEq] at h
      unfold Instr.findKey
      simp only [Sem.run_bind, run_underlying Tryd.underlying104, Result.andThen]
      simp only [Instr.findNow, h.1, plK, Instr.sameNow]
      exact hf
theorem run_lookup_q {w : World} {r : Nat} {S : List (Nat × Int)} (hb : QMap w r S) (k : Nat) (z : Int) (hkB : CellsB w k) (hS : ∀ p ∈ S, CellsB w p.1 ∧ p.1 ≠ k) :
    (Instr.lookup 101 (.map (some r)) (.agg #[.pointer (some ⟨k, 0, none⟩), .int .i64 z]) false).run Tryd.prog w = .ok (.bool false) w := by
  obtain ⟨es, c, h1, h2⟩ := hb
  have hf := run_findKey_q k z hkB es.toList S h2 hS
  unfold plK at hf
  simp [Instr.lookup, run_underlying Tryd.underlying101, Result.andThen, MapKept.run_getObj_map h1, ck_place, hf, zeroBC]
theorem run_update_q {w : World} {r : Nat} {S : List (Nat × Int)} (hb : QMap w r S) (k : Nat) (z : Int) (hkB : CellsB w k) (hS : ∀ p ∈ S, CellsB w p.1 ∧ p.1 ≠ k) (v : Value) :
    ∃ w', (Instr.mapUpdate 101 (.map (some r)) (.agg #[.pointer (some ⟨k, 0, none⟩), .int .i64 z]) v).run Tryd.prog w = .ok () w' ∧ QMap w' r (S ++ [(k, z)]) ∧ MapTo r w w' := by
  obtain ⟨es, c, h1, h2⟩ := hb
  have hf := run_findKey_q k z hkB es.toList S h2 hS
  unfold plK at hf
  refine ⟨mapWorld w r (es.push { key := plK (k, z), val := v, born := c }) (c + 1), ?_, ⟨_, _, mapWorld_map h1 _ _, ?_⟩, ⟨⟨es, c, h1⟩, _, _, rfl⟩⟩
  · simp [Instr.mapUpdate, run_underlying Tryd.underlying101, Result.andThen, MapKept.run_getObj_map h1, ck_place, hf, MapKept.run_setObj_map _ h1, mapWorld, plK]
  · simp [h2]
end Go.Proofs.YtljncdcjkdgkeaaDoor.Lp
namespace Go.Proofs.YtljncdcjkdgkeaaDoor.Lp
open Go.RowKit Go.Proofs.YtljncdcjkdgkeaaDoor.Big Go.Proofs.YtljncdcjkdgkeaaDoor.Rt

theorem RatsO.frG {P : Nat → Prop} {w w' : World} {lo : Nat} {A : Option Addr} {n c : Nat} {f : Nat → Rat} (x : RatsO w lo A n c f) (k : Fr P w w') (hP : ∀ k, CellsB w k → ¬ P k) : RatsO w' lo A n c f :=
  ⟨x.1, x.2.1, fun hn => by
    obtain ⟨b, e, hr, hb⟩ := x.2.2 hn
    have hr' := hr
    obtain ⟨cs, h1, -⟩ := hr
    exact ⟨b, e, hr'.fr k (hP b ⟨cs, _, h1⟩), hb⟩⟩
theorem TreeI.frG {P : Nat → Prop} {w w' : World} : ∀ {t : CT} {A : Option Addr} {b h : Nat}, TreeI w t A b h → Fr P w w' → (∀ k, CellsB w k → ¬ P k) → TreeI w' t A b h
  | .nil, _, _, _, x, _, _ => x
  | .node .., _, _, _, x, f, hP => by
    obtain ⟨k, L, H, Y, c, m1, m2, e, h1, h2, B, hY, hl, hh⟩ := x
    exact ⟨k, L, H, Y, c, m1, m2, e, h1, h2, f.box B (hP k ⟨_, _, B⟩), ⟨hY.1.frG f hP, hY.2⟩, TreeI.frG hl f hP, TreeI.frG hh f hP⟩
def hgK (hb fb : Nat) : Value := .func (.func 54) #[] #[.pointer (some ⟨hb, 0, none⟩), .pointer (some ⟨fb, 0, none⟩)]
/-- the map's block -/
def PM (mb k : Nat) : Prop := k = mb
def HgPost (mb : Nat) (S : List (Nat × Value)) (z : Int) (b h : Nat) (w : World) (e : Ending) (w' : World) : Prop :=
  e = .returned (.int .i64 z) ∧ (∃ N, PMap w' mb (S ++ N) ∧ ∀ p ∈ N, b ≤ p.1 ∧ p.1 < h ∧ CellsB w' p.1) ∧ Fr (PM mb) w w'
theorem HgPost.up {mb : Nat} {S : List (Nat × Value)} {z : Int} {b b' h h' : Nat} {w w' : World} {e : Ending} (k : HgPost mb S z b h w e w') (h1 : b' ≤ b) (h2 : h ≤ h') : HgPost mb S z b' h' w e w' := by
  obtain ⟨k1, ⟨N, k3, k4⟩, k5⟩ := k
  exact ⟨k1, ⟨N, k3, fun p hp => ⟨Nat.le_trans h1 (k4 p hp).1, Nat.lt_of_lt_of_le (k4 p hp).2.1 h2, (k4 p hp).2.2⟩⟩, k5⟩
/-- a leaf, or what is wrong at once -/
theorem hg_stop (mb k b h : Nat) (S : List (Nat × Value)) (w w' : World) (z : Int) (v : Value) (hF : Fr (PM mb) w w') (hM : PMap w' mb (S ++ [(k, v)])) (hk : b ≤ k) (hkh : k < h) (hkB : CellsB w' k) : HgPost mb S z b h w (.returned (.int .i64 z)) w' :=
  ⟨rfl, ⟨[(k, v)], hM, fun p hp => by obtain rfl := List.mem_singleton.1 hp; exact ⟨hk, hkh, hkB⟩⟩, hF⟩
set_option maxHeartbeats 2000000 in
set_option maxRecDepth 100000 in
theorem height_lf (mb hb fb k b h lev : Nat) (w : World) (S : List (Nat × Value)) (fl : Int) (em : Bool) (L H Y : Option Addr) (n c : Nat) (B : Bool) (hB : B = true ↔ fl = 0 ∧ L = none ∧ H = none) (hL : ∀ a, L = some a → ∃ x, a = ⟨x, 0, none⟩) (hH : ∀ a, H = some a → ∃ x, a = ⟨x, 0, none⟩)
    (NB : Box w k 41 (NodeC (-1) fl L H em Y n c)) (HB : Box w hb 98 #[.map (some mb)]) (FB : Box w fb 99 #[hgK hb fb]) (hM : PMap w mb S) (hS : ∀ p ∈ S, p.1 < k ∧ CellsB w p.1) (hk : b ≤ k) (hkh : k < h) (hl : lev ≤ 199) :
    Calls Tryd.prog 54 #[.pointer (some ⟨k, 0, none⟩), .int .i64 (lev : Int), .pointer (some ⟨hb, 0, none⟩), .pointer (some ⟨fb, 0, none⟩)] w (HgPost mb S (if B = true then 0 else -1) b h w) := by
  obtain ⟨vr, hvr⟩ : ∃ v : Int, v = -1 := ⟨_, rfl⟩
  rw [← hvr] at NB
  obtain ⟨j, hj, hsz⟩ := Option.map_eq_some_iff.1 infoNdC
  have hsz : j.size ≠ 0 := by omega
  have hnl : ∀ W x, (binOp BinOp.eql 33 (.pointer (some ⟨x, 0, none⟩)) (.pointer none)).run Tryd.prog W = .ok (.bool false) W := fun _ _ => by kernel_rfl
  have hnn : ∀ W, (binOp BinOp.eql 33 (.pointer none) (.pointer none)).run Tryd.prog W = .ok (.bool true) W := fun _ => by kernel_rfl
  have hkB : CellsB w k := ⟨_, _, NB⟩
  have e1 : decide ((200 : Int) < (lev : Int)) = false := by simp; omega
  have hl1 := run_lookup_p (P := Tryd.prog) (mt := 98) Tryd.underlying98 Tryd.underlying33 hj hsz hM (fun p hp => (hS p hp).2) k hkB (zeroNC w) true
  rw [pfind_ltC (fun p hp => (hS p hp).1)] at hl1
  simp only [if_true] at hl1
  obtain ⟨w1, hu1, hM1, hm1⟩ := run_update_new (P := Tryd.prog) (mt := 98) Tryd.underlying98 Tryd.underlying33 hj hsz hM (fun p hp => (hS p hp).2) k hkB (fun p hp e => by have := (hS p hp).1; omega) (.int .i64 (-1))
  have s0 := HB.c0
  have hhb : hb ≠ mb := hM.nobox HB
  have hfb : fb ≠ mb := hM.nobox FB
  have hnb : k ≠ mb := hM.nobox NB
  have HB1 := hm1.box HB
  have FB1 := hm1.box FB
  have NB1 := hm1.box NB
  have hF1 : Fr (PM mb) w w1 := MapTo.frC hm1 rfl
  have hkB1 := hm1.cells hkB
  have HSS : Hid (∀ p ∈ S, p.1 < k ∧ CellsB w p.1) := Lib.hid hS
  have HS1 : Hid (∀ p ∈ S, CellsB w1 p.1) := Lib.hid (fun p hp => hm1.cells (hS p hp).2)
  have s1 := HB1.c0
  have t0 : w1.cell? ⟨k, 0, none⟩ = some (.int .i64 vr) := NB1.cell 0
  subst hvr
  have t1 : w1.cell? ⟨k, 1, none⟩ = some (.int .i64 fl) := NB1.cell 1
  have t2 : w1.cell? ⟨k, 2, none⟩ = some (.pointer L) := NB1.cell 2
  have t3 : w1.cell? ⟨k, 3, none⟩ = some (.pointer H) := NB1.cell 3
  have hl2 := run_lookup_p (P := Tryd.prog) (mt := 98) Tryd.underlying98 Tryd.underlying33 hj hsz hM1 (fun p hp => by
    rcases List.mem_append.1 hp with q | q
    · exact HS1.out p q
    · obtain rfl := List.mem_singleton.1 q
      exact hkB1) k hkB1 (zeroNC w1) false
  rw [pfind_atC (fun p hp => (HSS.out p hp).1)] at hl2
  simp only [Bool.false_eq_true, if_false] at hl2
  clear hm1
  cases B with
  | true =>
    obtain ⟨rfl, rfl, rfl⟩ := hB.1 rfl
    obtain ⟨w2, hu2, hM2, hm2⟩ := run_update_at (P := Tryd.prog) (mt := 98) Tryd.underlying98 Tryd.underlying33 hj hsz k S [] (.int .i64 (-1)) hM1 (fun p hp => by
      rcases List.mem_append.1 hp with q | q
      · exact HS1.out p q
      · obtain rfl := List.mem_singleton.1 q
        exact hkB1) (fun p hp e => by have := (HSS.out p hp).1; omega) (.int .i64 0)
    have hl3 := run_lookup_p (P := Tryd.prog) (mt := 98) Tryd.underlying98 Tryd.underlying33 hj hsz hM2 (fun p hp => by
      rcases List.mem_append.1 hp with q | q
      · exact hm2.cells (HS1.out p q)
      · obtain rfl := List.mem_singleton.1 q
        exact hm2.cells hkB1) k (hm2.cells hkB1) (zeroNC w2) false
    rw [pfind_atC (fun p hp => (HSS.out p hp).1)] at hl3
    simp only [Bool.false_eq_true, if_false] at hl3
    have s2 := (hm2.box HB1).c0
    have hF2 := hF1.trans (MapTo.frC hm2 (P := PM mb) rfl)
    have hkB2 := hm2.cells hkB1
    clear hm2 hl2 hS
    go_enter Tryd.func54, Tryd.ntmps54
    go_wp2_with fail
    go_ret
    exact hg_stop mb k b h S w w2 0 (.int .i64 0) hF2 hM2 hk hkh hkB2
  | false =>
    have hno : fl = 0 → L = none → H = none → False := fun a1 a2 a3 => by have := hB.2 ⟨a1, a2, a3⟩; cases this
    have hend := hg_stop mb k b h S w w1 (-1) (.int .i64 (-1)) hF1 hM1 hk hkh hkB1
    clear hS
    by_cases hf : fl = 0
    · subst hf
      rcases L with _ | a
      · rcases H with _ | a
        · exact absurd (hno rfl rfl rfl) id
        · obtain ⟨x, rfl⟩ := hH a rfl
          go_enter Tryd.func54, Tryd.ntmps54
          go_wp2_with fail
          go_ret
          exact hend
      · obtain ⟨x, rfl⟩ := hL a rfl
        go_enter Tryd.func54, Tryd.ntmps54
        go_wp2_with fail
        go_ret
        exact hend
    · have e2 : (fl == 0) = false := by simpa using hf
      go_enter Tryd.func54, Tryd.ntmps54
      go_wp2_with fail
      go_ret
      exact hend
/-- an inner node that is wrong at once -/
theorem height_no (mb hb fb k b h lev : Nat) (w : World) (S : List (Nat × Value)) (vr fl : Int) (em : Bool) (L H Y : Option Addr) (n c : Nat) (hv : vr ≠ -1) (hno : ¬ (0 ≤ vr ∧ vr ≤ 9999 ∧ em = false ∧ n = 0))
    (NB : Box w k 41 (NodeC vr fl L H em Y n c)) (HB : Box w hb 98 #[.map (some mb)]) (FB : Box w fb 99 #[hgK hb fb]) (hM : PMap w mb S) (hS : ∀ p ∈ S, p.1 < k ∧ CellsB w p.1) (hk : b ≤ k) (hkh : k < h) (hl : lev ≤ 199) :
    Calls Tryd.prog 54 #[.pointer (some ⟨k, 0, none⟩), .int .i64 (lev : Int), .pointer (some ⟨hb, 0, none⟩), .pointer (some ⟨fb, 0, none⟩)] w (HgPost mb S (-1) b h w) := by
  obtain ⟨j, hj, hsz⟩ := Option.map_eq_some_iff.1 infoNdC
  have hsz : j.size ≠ 0 := by omega
  have hnl : ∀ W x, (binOp BinOp.eql 33 (.pointer (some ⟨x, 0, none⟩)) (.pointer none)).run Tryd.prog W = .ok (.bool false) W := fun _ _ => by kernel_rfl
  have hnn : ∀ W, (binOp BinOp.eql 33 (.pointer none) (.pointer none)).run Tryd.prog W = .ok (.bool true) W := fun _ => by kernel_rfl
  have hkB : CellsB w k := ⟨_, _, NB⟩
  have e1 : decide ((200 : Int) < (lev : Int)) = false := by simp; omega
  have hl1 := run_lookup_p (P := Tryd.prog) (mt := 98) Tryd.underlying98 Tryd.underlying33 hj hsz hM (fun p hp => (hS p hp).2) k hkB (zeroNC w) true
  rw [pfind_ltC (fun p hp => (hS p hp).1)] at hl1
  simp only [if_true] at hl1
  obtain ⟨w1, hu1, hM1, hm1⟩ := run_update_new (P := Tryd.prog) (mt := 98) Tryd.underlying98 Tryd.underlying33 hj hsz hM (fun p hp => (hS p hp).2) k hkB (fun p hp e => by have := (hS p hp).1; omega) (.int .i64 (-1))
  have s0 := HB.c0
  have hhb : hb ≠ mb := hM.nobox HB
  have hfb : fb ≠ mb := hM.nobox FB
  have hnb : k ≠ mb := hM.nobox NB
  have HB1 := hm1.box HB
  have FB1 := hm1.box FB
  have NB1 := hm1.box NB
  have hF1 : Fr (PM mb) w w1 := MapTo.frC hm1 rfl
  have hkB1 := hm1.cells hkB
  have HSS : Hid (∀ p ∈ S, p.1 < k ∧ CellsB w p.1) := Lib.hid hS
  have HS1 : Hid (∀ p ∈ S, CellsB w1 p.1) := Lib.hid (fun p hp => hm1.cells (hS p hp).2)
  have s1 := HB1.c0
  have t0 : w1.cell? ⟨k, 0, none⟩ = some (.int .i64 vr) := NB1.cell 0
  have e3 : (vr == -1) = false := by simpa using hv
  have t4 : w1.cell? ⟨k, 4, none⟩ = some (.bool em) := NB1.cell 4
  have t5 : w1.cell? ⟨k, 5, none⟩ = some (.slice Y n c) := NB1.cell 5
  have hend := hg_stop mb k b h S w w1 (-1) (.int .i64 (-1)) hF1 hM1 hk hkh hkB1
  clear hm1 hS
  by_cases g1 : vr < 0
  · have g1' : decide (vr < 0) = true := by simpa using g1
    go_enter Tryd.func54, Tryd.ntmps54
    go_wp2_with fail
    go_ret
    exact hend
  · have g1' : decide (vr < 0) = false := by simpa using g1
    by_cases g2 : 9999 < vr
    · have g2' : decide (9999 < vr) = true := by simpa using g2
      go_enter Tryd.func54, Tryd.ntmps54
      go_wp2_with fail
      go_ret
      exact hend
    · have g2' : decide (9999 < vr) = false := by simpa using g2
      cases em with
      | true =>
        go_enter Tryd.func54, Tryd.ntmps54
        go_wp2_with fail
        go_ret
        exact hend
      | false =>
        have g3 : ((n : Int) != 0) = true := by
          have : n ≠ 0 := fun h => hno ⟨by omega, by omega, rfl, h⟩
          simp; omega
        go_enter Tryd.func54, Tryd.ntmps54
        go_wp2_with fail
        go_ret
        exact hend
set_option maxHeartbeats 2000000 in
set_option maxRecDepth 100000 in
theorem height_in (mb hb fb k b h lev m1 m2 : Nat) (w : World) (S : List (Nat × Value)) (vr fl za zb : Int) (L H Y : Option Addr) (c : Nat) (hv0 : 0 ≤ vr) (hv1 : vr ≤ 9999)
    (NB : Box w k 41 (NodeC vr fl L H false Y 0 c)) (HB : Box w hb 98 #[.map (some mb)]) (FB : Box w fb 99 #[hgK hb fb]) (hM : PMap w mb S) (hS : ∀ p ∈ S, p.1 < k ∧ CellsB w p.1) (hk : b ≤ k) (hk1 : k < m1) (hm12 : m1 ≤ m2) (hm2h : m2 ≤ h) (hl : lev ≤ 199) (ha0 : -1 ≤ za) (ha1 : za < 199) (hb0 : -1 ≤ zb) (hb1 : zb < 199)
    (H1 : ∀ W, PMap W mb (S ++ [(k, .int .i64 (-1))]) → Fr (PM mb) w W → Calls Tryd.prog 54 #[.pointer L, .int .i64 ((lev : Int) + 1), .pointer (some ⟨hb, 0, none⟩), .pointer (some ⟨fb, 0, none⟩)] W (HgPost mb (S ++ [(k, .int .i64 (-1))]) za m1 m2 W))
    (H2 : ∀ W N, PMap W mb (S ++ [(k, .int .i64 (-1))] ++ N) → (∀ p ∈ N, m1 ≤ p.1 ∧ p.1 < m2 ∧ CellsB W p.1) → Fr (PM mb) w W → Calls Tryd.prog 54 #[.pointer H, .int .i64 ((lev : Int) + 1), .pointer (some ⟨hb, 0, none⟩), .pointer (some ⟨fb, 0, none⟩)] W (HgPost mb (S ++ [(k, .int .i64 (-1))] ++ N) zb m2 h W)) :
    Calls Tryd.prog 54 #[.pointer (some ⟨k, 0, none⟩), .int .i64 (lev : Int), .pointer (some ⟨hb, 0, none⟩), .pointer (some ⟨fb, 0, none⟩)] w (HgPost mb S (if 0 ≤ za ∧ 0 ≤ zb then max za zb + 1 else -1) b h w) := by
  obtain ⟨Z, hZ⟩ : ∃ Z, Z = (if 0 ≤ za ∧ 0 ≤ zb then max za zb + 1 else -1) := ⟨_, rfl⟩
  rw [← hZ]
  have HZ := Lib.hid hZ
  clear hZ
  obtain ⟨j, hj, hsz⟩ := Option.map_eq_some_iff.1 infoNdC
  have hsz : j.size ≠ 0 := by omega
  have hnl : ∀ W x, (binOp BinOp.eql 33 (.pointer (some ⟨x, 0, none⟩)) (.pointer none)).run Tryd.prog W = .ok (.bool false) W := fun _ _ => by kernel_rfl
  have hnn : ∀ W, (binOp BinOp.eql 33 (.pointer none) (.pointer none)).run Tryd.prog W = .ok (.bool true) W := fun _ => by kernel_rfl
  have hkB : CellsB w k := ⟨_, _, NB⟩
  have e1 : decide ((200 : Int) < (lev : Int)) = false := by simp; omega
  have hl1 := run_lookup_p (P := Tryd.prog) (mt := 98) Tryd.underlying98 Tryd.underlying33 hj hsz hM (fun p hp => (hS p hp).2) k hkB (zeroNC w) true
  rw [pfind_ltC (fun p hp => (hS p hp).1)] at hl1
  simp only [if_true] at hl1
  obtain ⟨w1, hu1, hM1, hm1⟩ := run_update_new (P := Tryd.prog) (mt := 98) Tryd.underlying98 Tryd.underlying33 hj hsz hM (fun p hp => (hS p hp).2) k hkB (fun p hp e => by have := (hS p hp).1; omega) (.int .i64 (-1))
  have s0 := HB.c0
  have hhb : hb ≠ mb := hM.nobox HB
  have hfb : fb ≠ mb := hM.nobox FB
  have hnb : k ≠ mb := hM.nobox NB
  have HB1 := hm1.box HB
  have FB1 := hm1.box FB
  have NB1 := hm1.box NB
  have hF1 : Fr (PM mb) w w1 := MapTo.frC hm1 rfl
  have hkB1 := hm1.cells hkB
  have HSS : Hid (∀ p ∈ S, p.1 < k ∧ CellsB w p.1) := Lib.hid hS
  have HS1 : Hid (∀ p ∈ S, CellsB w1 p.1) := Lib.hid (fun p hp => hm1.cells (hS p hp).2)
  have s1 := HB1.c0
  have t0 : w1.cell? ⟨k, 0, none⟩ = some (.int .i64 vr) := NB1.cell 0
  have HH1 := Lib.hid H1
  have HH2 := Lib.hid H2
  have e3 : (vr == -1) = false := by simp; omega
  have t4 : w1.cell? ⟨k, 4, none⟩ = some (.bool false) := NB1.cell 4
  have t5 : w1.cell? ⟨k, 5, none⟩ = some (.slice Y 0 c) := NB1.cell 5
  have g1' : decide (vr < 0) = false := by simpa using hv0
  have g2' : decide (9999 < vr) = false := by simp; omega
  have r1 : IntKind.i64.wrap ((lev : Int) + 1) = (lev : Int) + 1 := IntWalk.i64_in _ (by omega)
  clear hm1 hS H1 H2
  go_enter Tryd.func54, Tryd.ntmps54
  go_upto_region 13 with fail
  clear hl1 hu1 t0 t4 t5 s1 g1' g2' e3 e1
  have k0 : ∀ w', Fr (PM mb) w1 w' → w'.cell? ⟨fb, 0, none⟩ = some (.func (.func 54) #[] #[.pointer (some ⟨hb, 0, none⟩), .pointer (some ⟨fb, 0, none⟩)]) := fun w' h => (h.box FB1 hfb).c0
  have k1 : ∀ w', Fr (PM mb) w1 w' → w'.cell? ⟨k, 2, none⟩ = some (.pointer L) := fun w' h => (h.box NB1 hnb).cell 2
  have k2 : ∀ w', Fr (PM mb) w1 w' → w'.cell? ⟨k, 3, none⟩ = some (.pointer H) := fun w' h => (h.box NB1 hnb).cell 3
  have ks := Fr.refl (PM mb) w1
  go_region_held3 (fun w' => Fr (PM mb) w1 w') ((repeat (first | (with_reducible assumption) | (with_reducible apply Fr.drew) | (with_reducible apply Fr.drewN) | (with_reducible refine Fr.trans ?_ (by with_reducible assumption))))) (first
    | (go_at_call 54; (with_reducible refine (HH1.out _ (hM1.ext (by repeat (first | (with_reducible exact Ext.refl _) | (with_reducible apply Ext.drew) | (with_reducible apply Ext.drewN)))) (hF1.trans (by repeat (first | (with_reducible exact Fr.refl _ _) | (with_reducible apply Fr.drew) | (with_reducible apply Fr.drewN))))).mono ?_); rintro e wk ⟨rfl, ⟨N1, hMk, hN1⟩, hFk⟩; (have hFk1 : Fr (PM mb) w1 wk := Fr.trans (by repeat (first | (with_reducible exact Fr.refl _ _) | (with_reducible apply Fr.drew) | (with_reducible apply Fr.drewN))) hFk))
    | (go_at_call 54; (with_reducible refine (HH2.out _ N1 (hMk.ext (by repeat (first | (with_reducible exact Ext.refl _) | (with_reducible apply Ext.drew) | (with_reducible apply Ext.drewN)))) (fun p hp => ⟨(hN1 p hp).1, (hN1 p hp).2.1, (hN1 p hp).2.2.ext (by repeat (first | (with_reducible exact Ext.refl _) | (with_reducible apply Ext.drew) | (with_reducible apply Ext.drewN)))⟩) (hF1.trans (hFk1.trans (by repeat (first | (with_reducible exact Fr.refl _ _) | (with_reducible apply Fr.drew) | (with_reducible apply Fr.drewN)))))).mono ?_); rintro e wm ⟨rfl, ⟨N2, hMm, hN2⟩, hFm⟩; (have hFm1 : Fr (PM mb) wk wm := Fr.trans (by repeat (first | (with_reducible exact Fr.refl _ _) | (with_reducible apply Fr.drew) | (with_reducible apply Fr.drewN))) hFm))
    )
  all_goals (
    have hFw : Fr (PM mb) w wm := hF1.trans (hFk1.trans hFm1)
    have hno : ∀ k, CellsB w k → ¬ PM mb k := fun k hk e => PMap_cellsC hM hk e
    have hCb : CellsB wm k := Fr.cellsC hFw hkB (hno k hkB)
    have hN1m : ∀ p ∈ N1, m1 ≤ p.1 ∧ p.1 < m2 ∧ CellsB wm p.1 := fun p hp => ⟨(hN1 p hp).1, (hN1 p hp).2.1, Fr.cellsC hFm1 (hN1 p hp).2.2 (fun e => PMap_cellsC hMk (hN1 p hp).2.2 e)⟩
    have hSm : ∀ p ∈ S, CellsB wm p.1 := fun p hp => Fr.cellsC hFw (HSS.out p hp).2 (hno _ (HSS.out p hp).2)
    have hMm : PMap wm mb (S ++ (k, .int .i64 (-1)) :: (N1 ++ N2)) := by simpa [List.append_assoc] using hMm
    have hall : ∀ p ∈ S ++ (k, .int .i64 (-1)) :: (N1 ++ N2), CellsB wm p.1 := fun p hp => by
      rcases List.mem_append.1 hp with q | q
      · exact hSm p q
      · rcases List.mem_cons.1 q with q | q
        · rw [q]; exact hCb
        · rcases List.mem_append.1 q with q | q
          · exact (hN1m p q).2.2
          · exact (hN2 p q).2.2
    clear k0 k1 k2 r1 HH1 HH2
    by_cases hz : 0 ≤ za ∧ 0 ≤ zb
    · have hZ1 : Z = max za zb + 1 := by rw [HZ.out, if_pos hz]
      have q1 : decide (za < 0) = false := by simpa using hz.1
      have q2 : decide (zb < 0) = false := by simpa using hz.2
      have q3 : decide ((200 : Int) ≤ max za zb) = false := by rw [decide_eq_false_iff_not]; omega
      have q4 : IntKind.i64.wrap (max za zb + 1) = max za zb + 1 := IntWalk.i64_in _ (by omega)
      obtain ⟨w3, hu3, hM3, hm3⟩ := run_update_at (P := Tryd.prog) (mt := 98) Tryd.underlying98 Tryd.underlying33 hj hsz k S (N1 ++ N2) (.int .i64 (-1)) hMm hall (fun p hp e => by have := (HSS.out p hp).1; omega) (.int .i64 (max za zb + 1))
      have hl3 := run_lookup_p (P := Tryd.prog) (mt := 98) Tryd.underlying98 Tryd.underlying33 hj hsz hM3 (fun p hp => by
        rcases List.mem_append.1 hp with q | q
        · exact hm3.cells (hSm p q)
        · rcases List.mem_cons.1 q with q | q
          · rw [q]; exact hm3.cells hCb
          · rcases List.mem_append.1 q with q | q
            · exact hm3.cells (hN1m p q).2.2
            · exact hm3.cells (hN2 p q).2.2) k (hm3.cells hCb) (zeroNC w3) false
      rw [pfind_atC (fun p hp => (HSS.out p hp).1)] at hl3
      simp only [Bool.false_eq_true, if_false] at hl3
      have s2 := (hFw.box HB hhb).c0
      have s3 := (hm3.box (hFw.box HB hhb)).c0
      have hF3 := hFw.trans (MapTo.frC hm3 (P := PM mb) rfl)
      have hkm := hm3.cells hCb
      have hNN : ∀ p ∈ (k, Value.int .i64 (max za zb + 1)) :: (N1 ++ N2), b ≤ p.1 ∧ p.1 < h ∧ CellsB w3 p.1 := fun p hp => by
        rcases List.mem_cons.1 hp with q | q
        · rw [q]; exact ⟨hk, by show k < h; omega, hkm⟩
        · rcases List.mem_append.1 q with q | q
          · have := hN1m p q
            exact ⟨by omega, by omega, hm3.cells this.2.2⟩
          · have := hN2 p q
            exact ⟨by omega, by omega, hm3.cells this.2.2⟩
      clear hm3 hall hz
      go_wp2_with fail
      go_ret
      exact ⟨by rw [hZ1] <;> rfl, ⟨_, hM3, hNN⟩, hF3⟩
    · have hZ1 : Z = -1 := by rw [HZ.out, if_neg hz]
      have hNN : ∀ p ∈ (k, Value.int .i64 (-1)) :: (N1 ++ N2), b ≤ p.1 ∧ p.1 < h ∧ CellsB wm p.1 := fun p hp => by
        rcases List.mem_cons.1 hp with q | q
        · rw [q]; exact ⟨hk, by show k < h; omega, hCb⟩
        · rcases List.mem_append.1 q with q | q
          · have := hN1m p q
            exact ⟨by omega, by omega, this.2.2⟩
          · have := hN2 p q
            exact ⟨by omega, by omega, this.2.2⟩
      by_cases q1 : za < 0
      · have q1' : decide (za < 0) = true := by simpa using q1
        clear hz q1
        go_wp2_with fail
        go_ret
        exact ⟨by rw [hZ1] <;> rfl, ⟨_, hMm, hNN⟩, hFw⟩
      · have q1' : decide (za < 0) = false := by simpa using q1
        have q2' : decide (zb < 0) = true := by simp; omega
        clear hz q1
        go_wp2_with fail
        go_ret
        exact ⟨by rw [hZ1] <;> rfl, ⟨_, hMm, hNN⟩, hFw⟩)
theorem TreeI.addr {w : World} {t : CT} {A : Option Addr} {b h : Nat} (x : TreeI w t A b h) : ∀ a, A = some a → ∃ k, a = ⟨k, 0, none⟩ := by
  cases t with
  | nil => intro a e; rw [x.1] at e; cases e
  | node vr fl em n y lo hi =>
    obtain ⟨k, L, H, Y, c, m1, m2, e, -⟩ := x
    intro a e'
    rw [e] at e'
    exact ⟨k, (Option.some.inj e').symm⟩
theorem height_b (mb hb fb : Nat) (t : CT) : ∀ (A : Option Addr) (b h lev : Nat) (w : World) (S : List (Nat × Value)), TreeI w t A b h → lev + t.dep ≤ 200 → Box w hb 98 #[.map (some mb)] → Box w fb 99 #[hgK hb fb] → PMap w mb S → (∀ p ∈ S, p.1 < b ∧ CellsB w p.1) →
    Calls Tryd.prog 54 #[.pointer A, .int .i64 (lev : Int), .pointer (some ⟨hb, 0, none⟩), .pointer (some ⟨fb, 0, none⟩)] w (HgPost mb S t.hgt b h w) := by
  induction t with
  | nil =>
    intro A b h lev w S hT hl HB FB hM hS
    obtain ⟨rfl, -⟩ := hT
    have key : Calls Tryd.prog 54 #[.pointer none, .int .i64 (lev : Int), .pointer (some ⟨hb, 0, none⟩), .pointer (some ⟨fb, 0, none⟩)] w (fun e w' => e = .returned (.int .i64 (-1)) ∧ w' = w) := by
      go_enter Tryd.func54, Tryd.ntmps54
      go_wp2_with fail
      go_ret
      exact ⟨rfl, rfl⟩
    refine key.mono ?_
    rintro e w' ⟨rfl, rfl⟩
    exact ⟨rfl, ⟨[], by simpa using hM, fun p hp => by cases hp⟩, Fr.refl _ _⟩
  | node vr fl em n y lo hi iha ihb =>
    intro A b h lev w S hT hl HB FB hM hS
    obtain ⟨k, L, H, Y, c, m1, m2, rfl, h1, h2, NB, hY, hlo, hhi⟩ := hT
    have hd : (CT.node vr fl em n y lo hi).dep = 1 + max lo.dep hi.dep := rfl
    rw [hd] at hl
    have l1 := hlo.le
    have l2 := hhi.le
    have hS' : ∀ p ∈ S, p.1 < k ∧ CellsB w p.1 := fun p hp => ⟨by have := (hS p hp).1; omega, (hS p hp).2⟩
    by_cases hv : vr = -1
    · subst hv
      have e : (CT.node (-1) fl em n y lo hi).hgt = if (decide (fl = 0) && (lo.isNil && hi.isNil)) = true then 0 else -1 := by
        unfold CT.hgt
        rw [if_pos rfl]
        simp only [Bool.and_eq_true, decide_eq_true_eq]
      rw [e]
      refine height_lf mb hb fb k b h lev w S fl em L H Y n c _ ?_ hlo.addr hhi.addr NB HB FB hM hS' h1 (by omega) (by omega)
      simp only [Bool.and_eq_true, decide_eq_true_eq]
      refine and_congr Iff.rfl (and_congr ?_ ?_)
      · rw [hlo.nilA]; cases lo <;> simp [CT.isNil]
      · rw [hhi.nilA]; cases hi <;> simp [CT.isNil]
    · by_cases hg : 0 ≤ vr ∧ vr ≤ 9999 ∧ em = false ∧ n = 0
      · have e : (CT.node vr fl em n y lo hi).hgt = if 0 ≤ lo.hgt ∧ 0 ≤ hi.hgt then max lo.hgt hi.hgt + 1 else -1 := by
          conv => lhs; unfold CT.hgt
          rw [if_neg hv, if_pos hg]
        rw [e]
        obtain ⟨g1, g2, rfl, rfl⟩ := hg
        have a1 := lo.hgt_hi
        have a2 := hi.hgt_hi
        have hkB : CellsB w k := ⟨_, _, NB⟩
        have hno : ∀ i, CellsB w i → ¬ PM mb i := fun i hi e => PMap_cellsC hM hi e
        have hmb : ∀ {W : World} {i : Nat}, b ≤ i → i < h → True := fun _ _ => trivial
        have hkeep : ∀ W, Fr (PM mb) w W → Box W hb 98 #[.map (some mb)] ∧ Box W fb 99 #[hgK hb fb] := fun W hF => ⟨hF.box HB (hM.nobox HB), hF.box FB (hM.nobox FB)⟩
        refine height_in mb hb fb k b h lev m1 m2 w S vr fl lo.hgt hi.hgt L H Y c g1 g2 NB HB FB hM hS' h1 h2 l1 l2 (by omega) lo.hgt_lo (by omega) hi.hgt_lo (by omega) ?_ ?_
        · intro W hW hF
          obtain ⟨q1, q2⟩ := hkeep W hF
          have := iha L m1 m2 (lev + 1) W _ (hlo.frG hF hno) (by omega) q1 q2 hW (fun p hp => by
            rcases List.mem_append.1 hp with q | q
            · exact ⟨by have := (hS' p q).1; omega, Fr.cellsC hF (hS' p q).2 (hno _ (hS' p q).2)⟩
            · obtain rfl := List.mem_singleton.1 q
              exact ⟨h2, Fr.cellsC hF hkB (hno _ hkB)⟩)
          rw [show ((lev + 1 : Nat) : Int) = (lev : Int) + 1 by omega] at this
          exact this
        · intro W N hW hN hF
          obtain ⟨q1, q2⟩ := hkeep W hF
          have := ihb H m2 h (lev + 1) W _ (hhi.frG hF hno) (by omega) q1 q2 hW (fun p hp => by
            rcases List.mem_append.1 hp with q | q
            · rcases List.mem_append.1 q with q | q
              · exact ⟨by have := (hS' p q).1; omega, Fr.cellsC hF (hS' p q).2 (hno _ (hS' p q).2)⟩
              · obtain rfl := List.mem_singleton.1 q
                exact ⟨by show k < m2; omega, Fr.cellsC hF hkB (hno _ hkB)⟩
            · exact ⟨(hN p q).2.1, (hN p q).2.2⟩)
          rw [show ((lev + 1 : Nat) : Int) = (lev : Int) + 1 by omega] at this
          exact this
      · have e : (CT.node vr fl em n y lo hi).hgt = -1 := by
          unfold CT.hgt
          rw [if_neg hv, if_neg hg]
        rw [e]
        exact height_no mb hb fb k b h lev w S vr fl em L H Y n c hv hg NB HB FB hM hS' h1 (by omega) (by omega)
set_option maxHeartbeats 4000000 in
set_option maxRecDepth 100000 in
theorem wellFormed_t (t : CT) (A : Option Addr) (b h : Nat) (w : World) (hT : TreeI w t A b h) (hd : t.dep ≤ 200) :
    Calls Tryd.prog 33 #[.pointer A] w (fun e w' => e = .returned (.bool t.wf) ∧ Ext w w') := by
  obtain ⟨F, hFF⟩ : ∃ F, F = t.wf := ⟨_, rfl⟩
  have HF : Hid (decide (0 ≤ t.hgt) = F) := Lib.hid (by
    rw [hFF]
    cases h1 : t.wf with
    | true => exact decide_eq_true (t.hgt_wf.2 h1)
    | false => exact decide_eq_false (fun h2 => by rw [t.hgt_wf.1 h2] at h1; cases h1))
  rw [← hFF]
  clear hFF
  obtain ⟨Z, hZ⟩ : ∃ Z, Z = t.hgt := ⟨_, rfl⟩
  rw [← hZ] at HF
  have HZ := Lib.hid hZ
  clear hZ
  have hmm := @run_makeMap Tryd.prog
  obtain ⟨V, hV, hM, hB, hF, hE⟩ := boxesM w 98 99
  go_enter Tryd.func33, Tryd.ntmps33
  go_upto_region 3 with fail
  simp only [← hV]
  clear hV hmm
  obtain ⟨mb, hmb⟩ : ∃ x, x = w.heap.size := ⟨_, rfl⟩
  obtain ⟨hb, hhb⟩ : ∃ x, x = w.heap.size + 1 := ⟨_, rfl⟩
  obtain ⟨fb, hfb⟩ : ∃ x, x = w.heap.size + 1 + 1 := ⟨_, rfl⟩
  rw [← hfb, ← hhb]
  rw [← hfb] at hF
  rw [← hhb] at hB
  rw [← hmb] at hM hB
  have hms : w.heap.size ≤ mb := by omega
  have hfs : w.heap.size ≤ fb := by omega
  have n1 : hb ≠ fb := by omega
  have n2 : mb ≠ fb := by omega
  clear hmb hhb hfb
  have f0 := hF.c0
  have f1 := hF.frozen 0
  obtain ⟨K, hK⟩ : ∃ K : Value, K = hgK hb fb := ⟨_, rfl⟩
  have hF2 := hF.set 0 K
  have hB2 : Box (V.setCell ⟨fb, 0, none⟩ K) hb 98 #[.map (some mb)] := hB.far (p := ⟨fb, 0, none⟩) n1 K
  have hM2 : (V.setCell ⟨fb, 0, none⟩ K).heap[mb]? = some (.map #[] 0) := (Below.heap_setCell V ⟨fb, 0, none⟩ K mb n2).trans hM
  have hE2 : Ext w (V.setCell ⟨fb, 0, none⟩ K) := hE.set (p := ⟨fb, 0, none⟩) hfs K
  have hT2 := hT.ext hE2
  go_upto_region 4 with fail
  rw [show Value.func (.func 54) #[] #[.pointer (some ⟨hb, 0, none⟩), .pointer (some ⟨fb, 0, none⟩)] = K from hK.symm]
  generalize (V.setCell ⟨fb, 0, none⟩ K) = V2 at *
  have hF3 : Box V2 fb 99 #[K] := hF2
  rw [hK] at hF3
  clear hF2 f0 f1 hK hF hB hM
  have k0 : V2.cell? ⟨fb, 0, none⟩ = some (.func (.func 54) #[] #[.pointer (some ⟨hb, 0, none⟩), .pointer (some ⟨fb, 0, none⟩)]) := hF3.c0
  go_wp2_with fail
  refine (height_b mb hb fb t A b h 0 _ [] hT2 (by omega) hB2 hF3 ⟨#[], 0, hM2, rfl⟩ (fun p hp => by cases hp)).mono ?_
  rintro e w3 ⟨rfl, -, hFF⟩
  rw [← HZ.out]
  have hx := hFF.ext hE2 (fun b hb => by rw [hb]; exact hms)
  go_wp2_with fail
  go_ret
  exact ⟨by rw [HF.out] <;> rfl, hx⟩
end Go.Proofs.YtljncdcjkdgkeaaDoor.Lp
