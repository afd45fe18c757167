/- Walks: the law helpers two, awake. -/
import Derived.Test.YtginogcdjplhiaaGreatDoorT8
import Derived.Test.YtginogcdjplhiaaGreatDoorT5C
set_option linter.unusedVariables false
set_option linter.unusedSimpArgs false
namespace Go.Proofs.YtginogcdjplhiaaGreatDoor.Rt
open Go.RowKit Go.Proofs.YtginogcdjplhiaaGreatDoor.Big
open Go.Lib (itoa)

theorem QB_zero {k : Nat} (h : 0 < k) : QB k 0 := ⟨by unfold B; exact pw_pos k, B_one h⟩
def ParsedPost (s : ByteArray) (k : Nat) (w : World) (e : Ending) (w' : World) : Prop :=
  ∃ v X, e = .returned (.tuple #[v, .int .i64 (if isRat s.data.toList = true then 0 else 3)]) ∧ RatB w' v X k ∧ (isRat s.data.toList = true → X = parseQ s.data.toList) ∧ Ext w w'
theorem RatParse_b (s : ByteArray) (k : Nat) (w : World) (hs : s.size ≤ 4096) (hsk : s.size ≤ k) (hk2 : 2 ≤ k) (hk : k ≤ 1099511627776) (hmx : MxOK w) : Calls Tryz.prog 27 #[.string s] w (ParsedPost s k w) := by
  refine (RatParse_any s k w hs hsk hk2 hk hmx).mono ?_
  rintro e w' ⟨h1, h2⟩
  cases h : isRat s.data.toList with
  | true =>
    obtain ⟨v, rfl, hv, hx⟩ := h1 h
    exact ⟨v, _, by rw [h]; rfl, hv, fun _ => rfl, hx⟩
  | false =>
    obtain ⟨rfl, hx⟩ := h2 h
    exact ⟨zeroRat, 0, by rw [h]; rfl, ⟨RatV.zero _, QB_zero (by omega)⟩, fun h' => absurd (h.symm.trans h') (by decide), hx⟩

def RTwoPost (s t : ByteArray) (k : Nat) (w : World) (e : Ending) (w' : World) : Prop :=
  ∃ v u X Y, e = .returned (.tuple #[v, u, .bool (isRat s.data.toList && isRat t.data.toList)]) ∧ RatB w' v X k ∧ RatB w' u Y k ∧ (isRat s.data.toList = true → X = parseQ s.data.toList) ∧ (isRat t.data.toList = true → Y = parseQ t.data.toList) ∧ Ext w w'
theorem RatB.far4 {w : World} {b : Nat} {E : TypeId} {p p' q q' : Bool} {A A' D D' : Option Addr} {n c n' c' m k m' k' j : Nat} {v : Value} {z : Rat} (h : RatB w v z j) (hb : Box w b E #[.bool p, .slice A n c, .bool p', .slice A' n' c']) :
    RatB ((((w.setCell ⟨b, 0, none⟩ (.bool q)).setCell ⟨b, 1, none⟩ (.slice D m k)).setCell ⟨b, 2, none⟩ (.bool q')).setCell ⟨b, 3, none⟩ (.slice D' m' k')) v z j := by
  obtain ⟨⟨p1, A1, n1, c1, p2, A2, n2, c2, zz, rfl, h1, h2, h3⟩, h4⟩ := h
  exact ⟨⟨_, _, _, _, _, _, _, _, zz, rfl, h1.far4 hb, h2.far4 hb, h3⟩, h4⟩
theorem Box.far4 {w : World} {b c : Nat} {E : TypeId} {cs : Array Value} (h : Box w b E cs) (hne : b ≠ c) (x y z u : Value) :
    Box ((((w.setCell ⟨c, 0, none⟩ x).setCell ⟨c, 1, none⟩ y).setCell ⟨c, 2, none⟩ z).setCell ⟨c, 3, none⟩ u) b E cs :=
  (((h.far (p := ⟨c, 0, none⟩) hne x).far (p := ⟨c, 1, none⟩) hne y).far (p := ⟨c, 2, none⟩) hne z).far (p := ⟨c, 3, none⟩) hne u
theorem Ext.set4 {a w : World} (h : Ext a w) {c : Nat} (hc : a.heap.size ≤ c) (x y z u : Value) :
    Ext a ((((w.setCell ⟨c, 0, none⟩ x).setCell ⟨c, 1, none⟩ y).setCell ⟨c, 2, none⟩ z).setCell ⟨c, 3, none⟩ u) := (((h.set hc x).set hc y).set hc z).set hc u

set_option maxRecDepth 100000 in
set_option maxHeartbeats 8000000 in
theorem RatTwo_any (s t : ByteArray) (k : Nat) (w : World) (hs : s.size ≤ 4096) (hsk : s.size ≤ k) (ht : t.size ≤ 4096) (htk : t.size ≤ k) (hk2 : 2 ≤ k) (hk : k ≤ 1099511627776) (hmx : MxOK w) : Calls Tryz.prog 6 #[.string s, .string t] w (RTwoPost s t k w) := by
  obtain ⟨ds, hds⟩ : ∃ ds, ds = isRat s.data.toList := ⟨_, rfl⟩
  obtain ⟨dt, hdt⟩ : ∃ ds, ds = isRat t.data.toList := ⟨_, rfl⟩
  unfold RTwoPost
  rw [← hds, ← hdt]
  have HDS := Lib.hid hds
  have HDT := Lib.hid hdt
  clear hds hdt
  obtain ⟨B4, B5, hE0⟩ := boxesT2 w 28 28 #[.bool false, .slice none 0 0, .bool false, .slice none 0 0] #[.bool false, .slice none 0 0, .bool false, .slice none 0 0]
  go_enter Tryz.func6, Tryz.ntmps6
  go_wp2_with fail
  generalize ((w.alloc (.cells #[.bool false, .slice none 0 0, .bool false, .slice none 0 0] 28)).alloc (.cells #[.bool false, .slice none 0 0, .bool false, .slice none 0 0] 28)) = W0 at *
  refine (RatParse_b s k _ hs hsk hk2 hk (hmx.ext hE0)).mono ?_
  rintro e w1 ⟨v1, X, rfl, hb1, hX, hx1⟩
  obtain ⟨es, hes⟩ : ∃ es : Int, es = (if isRat s.data.toList = true then 0 else 3) := ⟨_, rfl⟩
  rw [← hes]
  rw [← HDS.out] at hes hX
  have hdes : (es == 0) = ds := by rw [hes]; cases ds <;> rfl
  have HX := Lib.hid hX
  clear hes hX
  obtain ⟨p1, A1, n1, c1, p1', A1', n1', c1', rfl⟩ := hb1.1.shape
  have B4 := B4.ext hx1
  have B5 := B5.ext hx1
  have hE1 := hE0.trans hx1
  have q0 := B4.c0
  have q1 := B4.c1
  have q2 := B4.c2
  have q3 := B4.c3
  have f0 := B4.frozen 0
  have f1 := B4.frozen 1
  have f2 := B4.frozen 2
  have f3 := B4.frozen 3
  go_upto_region 2 with fail
  obtain ⟨w2, hw2⟩ : ∃ w2, w2 = ((((w1.setCell ⟨w.heap.size, 0, none⟩ (.bool p1)).setCell ⟨w.heap.size, 1, none⟩ (.slice A1 n1 c1)).setCell ⟨w.heap.size, 2, none⟩ (.bool p1')).setCell ⟨w.heap.size, 3, none⟩ (.slice A1' n1' c1')) := ⟨_, rfl⟩
  have hE2 : Ext w w2 := by rw [hw2]; exact Ext.set4 hE1 (Nat.le_refl _) _ _ _ _
  have hb1 : RatB w2 (.agg #[.bool p1, .slice A1 n1 c1, .bool p1', .slice A1' n1' c1']) X k := by rw [hw2]; exact hb1.far4 B4
  have B5 : Box w2 (w.heap.size + 1) 28 #[.bool false, .slice none 0 0, .bool false, .slice none 0 0] := by rw [hw2]; exact Box.far4 B5 (by omega) (.bool p1) (.slice A1 n1 c1) (.bool p1') (.slice A1' n1' c1')
  have B4 : Box w2 w.heap.size 28 #[.bool p1, .slice A1 n1 c1, .bool p1', .slice A1' n1' c1'] := by rw [hw2]; exact B4.set4 (.bool p1) (.slice A1 n1 c1) (.bool p1') (.slice A1' n1' c1')
  rw [← hw2]
  clear hw2 q0 q1 q2 q3 f0 f1 f2 f3
  go_wp2_with fail
  refine (RatParse_b t k _ ht htk hk2 hk (hmx.ext hE2)).mono ?_
  rintro e w3 ⟨v3, Y, rfl, hb3, hY, hx3⟩
  obtain ⟨et, het⟩ : ∃ es : Int, es = (if isRat t.data.toList = true then 0 else 3) := ⟨_, rfl⟩
  rw [← het]
  rw [← HDT.out] at het hY
  have hdet : (et == 0) = dt := by rw [het]; cases dt <;> rfl
  have HY := Lib.hid hY
  clear het hY
  obtain ⟨p3, A3, n3, c3, p3', A3', n3', c3', rfl⟩ := hb3.1.shape
  have B4 := B4.ext hx3
  have B5 := B5.ext hx3
  have hb1 := hb1.ext hx3
  have hE3 := hE2.trans hx3
  have q0 := B5.c0
  have q1 := B5.c1
  have q2 := B5.c2
  have q3 := B5.c3
  have f0 := B5.frozen 0
  have f1 := B5.frozen 1
  have f2 := B5.frozen 2
  have f3 := B5.frozen 3
  go_upto_region 3 with fail
  obtain ⟨w4, hw4⟩ : ∃ w4, w4 = ((((w3.setCell ⟨w.heap.size + 1, 0, none⟩ (.bool p3)).setCell ⟨w.heap.size + 1, 1, none⟩ (.slice A3 n3 c3)).setCell ⟨w.heap.size + 1, 2, none⟩ (.bool p3')).setCell ⟨w.heap.size + 1, 3, none⟩ (.slice A3' n3' c3')) := ⟨_, rfl⟩
  have hE4 : Ext w w4 := by rw [hw4]; exact Ext.set4 hE3 (by omega) _ _ _ _
  have hb1 : RatB w4 (.agg #[.bool p1, .slice A1 n1 c1, .bool p1', .slice A1' n1' c1']) X k := by rw [hw4]; exact hb1.far4 B5
  have hb3 : RatB w4 (.agg #[.bool p3, .slice A3 n3 c3, .bool p3', .slice A3' n3' c3']) Y k := by rw [hw4]; exact hb3.far4 B5
  have B4 : Box w4 w.heap.size 28 #[.bool p1, .slice A1 n1 c1, .bool p1', .slice A1' n1' c1'] := by rw [hw4]; exact Box.far4 B4 (by omega) (.bool p3) (.slice A3 n3 c3) (.bool p3') (.slice A3' n3' c3')
  have B5 : Box w4 (w.heap.size + 1) 28 #[.bool p3, .slice A3 n3 c3, .bool p3', .slice A3' n3' c3'] := by rw [hw4]; exact B5.set4 (.bool p3) (.slice A3 n3 c3) (.bool p3') (.slice A3' n3' c3')
  rw [← hw4]
  clear hw4 q0 q1 q2 q3 f0 f1 f2 f3
  obtain ⟨w5, hw5⟩ : ∃ w5, w5 = ((((w4.setCell ⟨w.heap.size, 0, none⟩ (.bool p1)).setCell ⟨w.heap.size, 1, none⟩ (.slice A1 n1 c1)).setCell ⟨w.heap.size, 2, none⟩ (.bool p1')).setCell ⟨w.heap.size, 3, none⟩ (.slice A1' n1' c1')) := ⟨_, rfl⟩
  have hE5 : Ext w w5 := by rw [hw5]; exact Ext.set4 hE4 (by omega) _ _ _ _
  have C1 : RatB w5 (.agg #[.bool p1, .slice A1 n1 c1, .bool p1', .slice A1' n1' c1']) X k := by rw [hw5]; exact hb1.far4 B4
  have C3 : RatB w5 (.agg #[.bool p3, .slice A3 n3 c3, .bool p3', .slice A3' n3' c3']) Y k := by rw [hw5]; exact hb3.far4 B4
  have D5 : Box w5 (w.heap.size + 1) 28 #[.bool p3, .slice A3 n3 c3, .bool p3', .slice A3' n3' c3'] := by rw [hw5]; exact Box.far4 B5 (by omega) (.bool p1) (.slice A1 n1 c1) (.bool p1') (.slice A1' n1' c1')
  have D4 : Box w5 w.heap.size 28 #[.bool p1, .slice A1 n1 c1, .bool p1', .slice A1' n1' c1'] := by rw [hw5]; exact B4.set4 (.bool p1) (.slice A1 n1 c1) (.bool p1') (.slice A1' n1' c1')
  obtain ⟨w6, hw6⟩ : ∃ w6, w6 = ((((w5.setCell ⟨w.heap.size + 1, 0, none⟩ (.bool p3)).setCell ⟨w.heap.size + 1, 1, none⟩ (.slice A3 n3 c3)).setCell ⟨w.heap.size + 1, 2, none⟩ (.bool p3')).setCell ⟨w.heap.size + 1, 3, none⟩ (.slice A3' n3' c3')) := ⟨_, rfl⟩
  have hE6 : Ext w w6 := by rw [hw6]; exact Ext.set4 hE5 (by omega) _ _ _ _
  have C1 : RatB w6 (.agg #[.bool p1, .slice A1 n1 c1, .bool p1', .slice A1' n1' c1']) X k := by rw [hw6]; exact C1.far4 D5
  have C3 : RatB w6 (.agg #[.bool p3, .slice A3 n3 c3, .bool p3', .slice A3' n3' c3']) Y k := by rw [hw6]; exact C3.far4 D5
  have F4 : Box w6 w.heap.size 28 #[.bool p1, .slice A1 n1 c1, .bool p1', .slice A1' n1' c1'] := by rw [hw6]; exact Box.far4 D4 (by omega) (.bool p3) (.slice A3 n3 c3) (.bool p3') (.slice A3' n3' c3')
  have F5 : Box w6 (w.heap.size + 1) 28 #[.bool p3, .slice A3 n3 c3, .bool p3', .slice A3' n3' c3'] := by rw [hw6]; exact D5.set4 (.bool p3) (.slice A3 n3 c3) (.bool p3') (.slice A3' n3' c3')
  rw [hw5] at hw6
  have HW := Lib.hid hw6
  clear hw5 hw6 D4 D5 hb1 hb3
  have q0 := B4.c0
  have q1 := B4.c1
  have q2 := B4.c2
  have q3 := B4.c3
  have f0 := B4.frozen 0
  have f1 := B4.frozen 1
  have f2 := B4.frozen 2
  have f3 := B4.frozen 3
  have r0 := B5.c0
  have r1 := B5.c1
  have r2 := B5.c2
  have r3 := B5.c3
  have g0 := B5.frozen 0
  have g1 := B5.frozen 1
  have g2 := B5.frozen 2
  have g3 := B5.frozen 3
  have a0 := F4.c0
  have a1 := F4.c1
  have a2 := F4.c2
  have a3 := F4.c3
  have b0 := F5.c0
  have b1 := F5.c1
  have b2 := F5.c2
  have b3 := F5.c3
  clear hE0 hE1 hE2 hE3 hE4 hE5 hx1 hx3 hmx
  cases ds
  · go_region
    all_goals (go_wp2_with fail)
    all_goals (rw [← HW.out])
    all_goals (refine bodyPost_ret (v := .tuple #[.agg #[.bool p1, .slice A1 n1 c1, .bool p1', .slice A1' n1' c1'], .agg #[.bool p3, .slice A3 n3 c3, .bool p3', .slice A3' n3' c3'], .bool false]) (by simp [results, Tryz.results6, go_sem, a0, a1, a2, a3, b0, b1, b2, b3]) rfl ?_)
    all_goals exact ⟨_, _, _, _, rfl, C1, C3, HX.out, HY.out, hE6.drew⟩
  · go_region
    all_goals (go_wp2_with fail)
    all_goals (rw [← HW.out])
    all_goals (refine bodyPost_ret (v := .tuple #[.agg #[.bool p1, .slice A1 n1 c1, .bool p1', .slice A1' n1' c1'], .agg #[.bool p3, .slice A3 n3 c3, .bool p3', .slice A3' n3' c3'], .bool dt]) (by simp [results, Tryz.results6, go_sem, a0, a1, a2, a3, b0, b1, b2, b3]) rfl ?_)
    all_goals first
      | exact ⟨_, _, _, _, rfl, C1, C3, HX.out, HY.out, hE6.drew⟩
      | exact ⟨_, _, rfl, _, C1, _, C3, HX.out trivial, HY.out, hE6.drew⟩
end Go.Proofs.YtginogcdjplhiaaGreatDoor.Rt
