/- Walks: the law helper two. -/
import Derived.Test.YtnojllmidpdbcaaDoorQ1
set_option linter.unusedVariables false
set_option linter.unusedSimpArgs false
namespace Go.Proofs.YtnojllmidpdbcaaDoor.Big
open Go.RowKit

def ParPost (s : ByteArray) (w : World) (e : Ending) (w' : World) : Prop := ∃ v X, e = .returned (.tuple #[v, .int .i64 (if isDec s.data.toList = true then 0 else 3)]) ∧ BigV w' v X ∧ (isDec s.data.toList = true → X = parseZ s.data.toList) ∧ (isDec s.data.toList = false → v = zeroAgg) ∧ Ext w w'
theorem Parse_any (s : ByteArray) (w : World) (hs : s.size ≤ 4096) : Calls Tryd.prog 14 #[.string s] w (ParPost s w) := by
  cases h : isDec s.data.toList with
  | true =>
    refine (Parse_ok s w hs h).mono ?_
    rintro e w' ⟨v, rfl, hb, hx⟩
    exact ⟨v, _, by rw [h]; rfl, hb, fun _ => rfl, fun h' => absurd (h.symm.trans h') (by decide), hx⟩
  | false =>
    refine (Parse_form s w hs h).mono ?_
    rintro e w' ⟨rfl, hx⟩
    exact ⟨zeroAgg, 0, by rw [h]; rfl, BigV.zero _, fun h' => absurd (h.symm.trans h') (by decide), fun _ => rfl, hx⟩

/-- two answers: both texts are short decimal forms -/
def okT (s : ByteArray) : Bool := decide (s.size ≤ 80) && isDec s.data.toList
def TwoPost (s t : ByteArray) (w : World) (e : Ending) (w' : World) : Prop := ∃ v u X Y, e = .returned (.tuple #[v, u, .bool (okT s && okT t)]) ∧ BigV w' v X ∧ BigV w' u Y ∧ (okT s = true → okT t = true → X = parseZ s.data.toList ∧ Y = parseZ t.data.toList) ∧ Ext w w'

set_option maxHeartbeats 2000000 in
theorem two_any (s t : ByteArray) (w : World) : Calls Tryd.prog 21 #[.string s, .string t] w (TwoPost s t w) := by
  by_cases hst : s.size ≤ 80 ∧ t.size ≤ 80
  · obtain ⟨hs, ht⟩ := hst
    have e1 : decide ((80 : Int) < s.size) = false := by simp; omega
    have e2 : decide ((80 : Int) < t.size) = false := by simp; omega
    have os : okT s = isDec s.data.toList := by unfold okT; simp [hs]
    have ot : okT t = isDec t.data.toList := by unfold okT; simp [ht]
    unfold TwoPost
    rw [os, ot]
    clear os ot
    obtain ⟨ds, hds⟩ : ∃ ds, ds = isDec s.data.toList := ⟨_, rfl⟩
    obtain ⟨dt, hdt⟩ : ∃ ds, ds = isDec t.data.toList := ⟨_, rfl⟩
    rw [← hds, ← hdt]
    have HDS := Lib.hid hds
    have HDT := Lib.hid hdt
    clear hds hdt
    go_enter Tryd.func21, Tryd.ntmps21
    go_upto_region 3 with fail
    obtain ⟨B4, B5, hE0⟩ := boxes2 w 25 #[.bool false, .slice none 0 0] #[.bool false, .slice none 0 0]
    generalize ((w.alloc (.cells #[.bool false, .slice none 0 0] 25)).alloc (.cells #[.bool false, .slice none 0 0] 25)) = W0 at *
    go_wp2_with fail
    refine (Parse_any s _ (by omega)).mono ?_
    rintro e w1 ⟨v1, X, rfl, hb1, hX, -, hx1⟩
    obtain ⟨es, hes⟩ : ∃ es : Int, es = (if isDec s.data.toList = true then 0 else 3) := ⟨_, rfl⟩
    rw [← hes]
    rw [← HDS.out] at hes hX
    have hdes : (es == 0) = ds := by rw [hes]; cases ds <;> rfl
    clear hes
    obtain ⟨p1, A1, n1, c1, rfl⟩ := hb1.shape
    have B4 := B4.ext hx1
    have B5 := B5.ext hx1
    have q0 := B4.c0
    have q1 := B4.c1
    have f0 := B4.frozen 0
    have f1 := B4.frozen 1
    have hE1 := hE0.trans hx1
    go_upto_region 4 with fail
    obtain ⟨w2, hw2⟩ : ∃ w2, w2 = (w1.setCell ⟨w.heap.size, 0, none⟩ (.bool p1)).setCell ⟨w.heap.size, 1, none⟩ (.slice A1 n1 c1) := ⟨_, rfl⟩
    have hE2 : Ext w w2 := by rw [hw2]; exact (hE1.set (Nat.le_refl _) _).set (Nat.le_refl _) _
    have hb1 := (hb1.put B4).1
    have B4 := B4.put2 (.bool p1) (.slice A1 n1 c1)
    have B5 := (B5.far (p := ⟨w.heap.size, 0, none⟩) (by simp) (.bool p1)).far (p := ⟨w.heap.size, 1, none⟩) (by simp) (.slice A1 n1 c1)
    rw [← hw2] at hb1 B4 B5 ⊢
    clear hw2 q0 q1 f0 f1
    go_wp2_with fail
    refine (Parse_any t _ (by omega)).mono ?_
    rintro e w3 ⟨v3, Y, rfl, hb3, hY, -, hx3⟩
    obtain ⟨et, het⟩ : ∃ es : Int, es = (if isDec t.data.toList = true then 0 else 3) := ⟨_, rfl⟩
    rw [← het]
    rw [← HDT.out] at het hY
    have hdet : (et == 0) = dt := by rw [het]; cases dt <;> rfl
    clear het
    obtain ⟨p3, A3, n3, c3, rfl⟩ := hb3.shape
    have B4 := B4.ext hx3
    have B5 := B5.ext hx3
    have q0 := B5.c0
    have q1 := B5.c1
    have f0 := B5.frozen 0
    have f1 := B5.frozen 1
    have hE3 := hE2.trans hx3
    have hb1 := hb1.ext hx3
    go_upto_region 5 with fail
    obtain ⟨w4, hw4⟩ : ∃ w4, w4 = (w3.setCell ⟨w.heap.size + 1, 0, none⟩ (.bool p3)).setCell ⟨w.heap.size + 1, 1, none⟩ (.slice A3 n3 c3) := ⟨_, rfl⟩
    have hE4 : Ext w w4 := by rw [hw4]; exact (hE3.set (by simp) _).set (by simp) _
    have hb3 := (hb3.put B5).1
    have hb1 := (hb1.far B5 rfl rfl 0 _).far (B5.set 0 (.bool p3)) rfl rfl 1 (.slice A3 n3 c3)
    have B4 := (B4.far (p := ⟨w.heap.size + 1, 0, none⟩) (by simp) (.bool p3)).far (p := ⟨w.heap.size + 1, 1, none⟩) (by simp) (.slice A3 n3 c3)
    have B5 := B5.put2 (.bool p3) (.slice A3 n3 c3)
    rw [← hw4] at hb1 hb3 B4 B5 ⊢
    clear hw4 q0 q1 f0 f1
    have q0 := B4.c0
    have q1 := B4.c1
    have f0 := B4.frozen 0
    have f1 := B4.frozen 1
    have r0 := B5.c0
    have r1 := B5.c1
    have g0 := B5.frozen 0
    have g1 := B5.frozen 1
    obtain ⟨w5, hw5, u1, u2, u3, u4, u5, u6⟩ := BigV.put2 (by omega) hb1 hb3 B4 B5
    have hfin : Ext w w5 := by rw [hw5]; exact (((hE4.set (Nat.le_refl _) _).set (Nat.le_refl _) _).set (by simp) _).set (by simp) _
    have HW5 := Lib.hid hw5
    clear hw5 B4 B5 hb1 hb3
    have HXY : ds = true → dt = true → X = parseZ s.data.toList ∧ Y = parseZ t.data.toList := fun h1 h2 => ⟨hX h1, hY h2⟩
    have HXY := Lib.hid HXY
    clear hX hY HDS HDT
    cases ds
    · go_region
      all_goals (go_wp2_with fail)
      all_goals (rw [← HW5.out])
      all_goals (refine bodyPost_ret (v := .tuple #[.agg #[.bool p1, .slice A1 n1 c1], .agg #[.bool p3, .slice A3 n3 c3], .bool false]) (by simp [results, Tryd.results21, go_sem, u3, u4, u5, u6]) rfl ?_; exact ⟨_, _, _, _, rfl, u1, u2, HXY.out, hfin.drew⟩)
    · go_region
      all_goals (go_wp2_with fail)
      all_goals (rw [← HW5.out])
      all_goals (refine bodyPost_ret (v := .tuple #[.agg #[.bool p1, .slice A1 n1 c1], .agg #[.bool p3, .slice A3 n3 c3], .bool dt]) (by simp [results, Tryd.results21, go_sem, u3, u4, u5, u6]) rfl ?_; exact ⟨_, _, rfl, _, u1, _, u2, HXY.out trivial, hfin.drew⟩)
  · have e4 : okT s = false ∨ okT t = false := by
      unfold okT
      rcases Nat.lt_or_ge 80 s.size with h | h
      · exact .inl (by simp [show ¬ s.size ≤ 80 by omega])
      · exact .inr (by simp [show ¬ t.size ≤ 80 by omega])
    have e5 : (okT s && okT t) = false := by rcases e4 with h | h <;> simp [h]
    have e6 : okT s = true → okT t = true → (0 : Int) = parseZ s.data.toList ∧ (0 : Int) = parseZ t.data.toList := fun h1 h2 => absurd e5 (by simp [h1, h2])
    have e7 := Lib.hid e6
    clear e6 e4
    unfold TwoPost
    rw [e5]
    clear e5
    have u1 := BigV.zero ((w.alloc (.cells #[.bool false, .slice none 0 0] 25)).alloc (.cells #[.bool false, .slice none 0 0] 25))
    rcases Nat.lt_or_ge 80 s.size with h | h
    · have e1 : decide ((80 : Int) < s.size) = true := by simp; omega
      clear h hst
      go_enter Tryd.func21, Tryd.ntmps21
      go_upto_region 2 with fail
      go_region
      all_goals (go_wp2_with fail)
      all_goals (refine bodyPost_ret (v := .tuple #[.agg #[.bool false, .slice none 0 0], .agg #[.bool false, .slice none 0 0], .bool false]) (by simp [results, Tryd.results21, go_sem]) rfl ?_; exact ⟨_, _, _, _, rfl, u1, u1, e7.out, (((Ext.refl w).alloc _).alloc _).drew⟩)
    · have e1 : decide ((80 : Int) < s.size) = false := by simp; omega
      have e2 : decide ((80 : Int) < t.size) = true := by simp; omega
      clear h hst
      go_enter Tryd.func21, Tryd.ntmps21
      go_upto_region 2 with fail
      go_region
      all_goals (go_wp2_with fail)
      all_goals (refine bodyPost_ret (v := .tuple #[.agg #[.bool false, .slice none 0 0], .agg #[.bool false, .slice none 0 0], .bool false]) (by simp [results, Tryd.results21, go_sem]) rfl ?_; exact ⟨_, _, _, _, rfl, u1, u1, e7.out, (((Ext.refl w).alloc _).alloc _).drew⟩)

end Go.Proofs.YtnojllmidpdbcaaDoor.Big
