/- Walk: the rational numbers' Ceil. -/
import Derived.Test.YtljncdcjkdgkeaaGreatDoorYIBR
set_option linter.unusedVariables false
set_option linter.unusedSimpArgs false
namespace Go.Proofs.YtljncdcjkdgkeaaGreatDoor.Rt
open Go.RowKit Go.Proofs.YtljncdcjkdgkeaaGreatDoor.Big
attribute [local go_sem] Go.World.cell?_alloc_some Go.RowKit.frozen?_alloc_cells
set_option maxHeartbeats 16000000 in
theorem RatCeil_b (x : Value) (q : Rat) (k : Nat) (w : World) (hx : RatB w x q k) (hL : k ≤ 1099511627776) : Calls Tryz.prog 57 #[x] w (qec w (qak q) (k + 1)) := by
 obtain ⟨p1, A1, n1, c1, p1', A1', n1', c1', rfl⟩ := hx.1.shape
 obtain ⟨Z, hZ⟩ : ∃ Z, Z = qak q := ⟨_, rfl⟩
 rw [← hZ]
 have HZ := Lib.hid hZ
 clear hZ
 go_enter Tryz.func57, Tryz.ntmps57
 go_wp2_with fail
 obtain ⟨B0, B1, hE0⟩ := qwt w 58 56 #[.bool p1, .slice A1 n1 c1, .bool p1', .slice A1' n1' c1'] #[.bool false, .slice none 0 0]
 have hX := hx.ext hE0
 have hXn := hX.numB
 have hsz : ((w.alloc (.cells #[.bool p1, .slice A1 n1 c1, .bool p1', .slice A1' n1' c1'] 58)).alloc (.cells #[.bool false, .slice none 0 0] 56)).heap.size = w.heap.size + 1 + 1 := by simp
 generalize ((w.alloc (.cells #[.bool p1, .slice A1 n1 c1, .bool p1', .slice A1' n1' c1'] 58)).alloc (.cells #[.bool false, .slice none 0 0] 56)) = W0 at *
 obtain ⟨D, hD⟩ : ∃ D : Int, D = (q.den : Int) := ⟨_, rfl⟩
 have hD0 : 0 < D := by have := q.den_pos; omega
 have HD := Lib.hid hD
 have HD0 := Lib.hid hD0
 have HSZ := Lib.hid hsz
 clear hx hD hD0 hsz
 have hbn : q.num.natAbs < pw k := hXn.2
 have hXV := hXn.1
 go_upto_region 1 with fail
 go_cut [3, 4, 5] (fun v u er wx => FC W0 (q.num.tdiv D) (q.num.tmod D) v u er wx)
 case first =>
  have k00 : ∀ w', Later W0 w' → w'.cell? ⟨_, 0, none⟩ = some _ := fun w' h => (B0.ext h).c0
  have k01 : ∀ w', Later W0 w' → w'.cell? ⟨_, 1, none⟩ = some _ := fun w' h => (B0.ext h).c1
  have k02 : ∀ w', Later W0 w' → w'.cell? ⟨_, 2, none⟩ = some _ := fun w' h => (B0.ext h).c2
  have k03 : ∀ w', Later W0 w' → w'.cell? ⟨_, 3, none⟩ = some _ := fun w' h => (B0.ext h).c3
  have hS0 := Later.refl W0
  clear B0 B1
  go_region_held3 (fun w' => Later W0 w') ((repeat (first | assumption | apply Later.drew | apply Later.drewN | apply Later.alloc | (refine Later.set ?_ (by first | exact Nat.le_refl _ | exact Nat.le_succ _ | exact Later.size (by assumption) | exact Nat.le_succ_of_le (Later.size (by assumption))) _) | (refine Later.step ?_ (by assumption))))) (first
   | (go_at_call 44; (with_reducible refine (q07 _ _ _ _ (hX.ext (by repeat (first | (with_reducible exact Ext.refl _) | (with_reducible apply Ext.drew) | (with_reducible apply Ext.drewN) | (with_reducible apply Ext.alloc))))).mono ?_); rintro e w1 ⟨v1, rfl, hb1, hx1⟩; (obtain ⟨p2, A2, n2, c2, rfl⟩ := hb1.1.shape); (have hbv := hb1.1; rw [← HD.out] at hbv); (have hS1 := Later.step (by assumption) hx1); (try (have e1 := boxAd hx1; have e11 := e1.c0; have e12 := e1.c1; have e13 := e1.frozen 0; have e14 := e1.frozen 1)); (try (have e1 := boxB0d hx1; have e11 := e1.c0; have e12 := e1.c1; have e13 := e1.frozen 0; have e14 := e1.frozen 1)); (try (have e2 := boxB1d hx1; have e21 := e2.c0; have e22 := e2.c1; have e23 := e2.frozen 0; have e24 := e2.frozen 1)); (try (have e1 := boxA hx1; have e11 := e1.c0; have e12 := e1.c1; have e13 := e1.frozen 0; have e14 := e1.frozen 1)); (try (have e1 := boxB0 hx1; have e11 := e1.c0; have e12 := e1.c1; have e13 := e1.frozen 0; have e14 := e1.frozen 1)); (try (have e2 := boxB1 hx1; have e21 := e2.c0; have e22 := e2.c1; have e23 := e2.frozen 0; have e24 := e2.frozen 1)))
   | (go_at_call 85; (with_reducible refine (qcp _ _ q.num D k _ (hXV.ext (by repeat (first | (with_reducible exact Ext.refl _) | (with_reducible apply Ext.drew) | (with_reducible apply Ext.drewN) | (with_reducible apply Ext.alloc) | (with_reducible refine Ext.trans ?_ (by assumption))))) (hbv.ext (by repeat (first | (with_reducible exact Ext.refl _) | (with_reducible apply Ext.drew) | (with_reducible apply Ext.drewN) | (with_reducible apply Ext.alloc)))) hbn (by omega) (by have := HD0.out; omega)).mono ?_); rintro e w2 ⟨v2, v3, rfl, hb2, hb3, hx2⟩; (obtain ⟨p3, A3, n3, c3, rfl⟩ := hb2.shape); (obtain ⟨p4, A4, n4, c4, rfl⟩ := hb3.shape); (have hS2 := Later.step (by assumption) hx2); (have z1 := Ext.size hx1); (have z2 := Ext.size hx2); (try simp at z1); (try simp at z2); (try (have m1 : ¬ W0.heap.size = w1.heap.size := by omega)); (try (have m2 : ¬ w1.heap.size = W0.heap.size := by omega)); (try (have m3 : ¬ W0.heap.size = w2.heap.size := by omega)); (try (have m4 : ¬ w2.heap.size = W0.heap.size := by omega)); (try (have m5 : ¬ w1.heap.size = w2.heap.size := by omega)); (try (have m6 : ¬ w2.heap.size = w1.heap.size := by omega));  (try (have f1 := boxA hx2; have f11 := f1.c0; have f12 := f1.c1; have f13 := f1.frozen 0; have f14 := f1.frozen 1)); (try (have f1 := boxB0 hx2; have f11 := f1.c0; have f12 := f1.c1; have f13 := f1.frozen 0; have f14 := f1.frozen 1)); (try (have f2 := boxB1 hx2; have f21 := f2.c0; have f22 := f2.c1; have f23 := f2.frozen 0; have f24 := f2.frozen 1)); (try (have g1 := Box.ext e1 hx2; have g11 := g1.c0; have g12 := g1.c1; have g13 := g1.frozen 0; have g14 := g1.frozen 1)); (try (have g1 := Box.ext (Box.alloc e1 _) hx2; have g11 := g1.c0; have g12 := g1.c1; have g13 := g1.frozen 0; have g14 := g1.frozen 1)); (try (have g2 := Box.ext e2 hx2; have g21 := g2.c0; have g22 := g2.c1; have g23 := g2.frozen 0; have g24 := g2.frozen 1)))
   )
  all_goals (go_wp2_with fail; go_meet)
  all_goals first
   | (with_reducible exact FC.way1 hb2 hb3 hS2)
   | (with_reducible exact FC.way2 hb2 hb3 hS2)
   | (with_reducible exact FC.way3 hb2 hb3 hS2 (by with_reducible assumption) (by with_reducible assumption) (by omega) (by first | exact Nat.le_refl _ | exact Nat.le_succ _ | exact Later.size hS1 | exact Nat.le_succ_of_le (Later.size hS1)) (by first | exact Nat.le_refl _ | exact Nat.le_succ _ | exact Later.size hS1 | exact Nat.le_succ_of_le (Later.size hS1)))
   | (with_reducible exact FC.way4 hb2 hb3 hS2 (by with_reducible assumption) (by first | exact Nat.le_refl _ | exact Nat.le_succ _ | exact Later.size hS1 | exact Nat.le_succ_of_le (Later.size hS1)))
   | (with_reducible exact FC.way5 hb2 hb3 hS2 (by with_reducible assumption) (by first | exact Nat.le_refl _ | exact Nat.le_succ _ | exact Later.size hS1 | exact Nat.le_succ_of_le (Later.size hS1)))
 case rest =>
  obtain ⟨b, c, n, m, n', m', p, p', A, A', rfl, rfl, rfl, B3, B4, h3, h4, hx1, hbb⟩ := hcut
  have BR := B1.ext hx1
  have hE1 := hE0.trans hx1
  obtain ⟨T, hT⟩ : ∃ T, T = q.num.tdiv D := ⟨_, rfl⟩
  obtain ⟨M, hM⟩ : ∃ M, M = q.num.tmod D := ⟨_, rfl⟩
  have hTM := q2t (n := q.num) HD0.out
  rw [← hT, ← hM] at hTM
  rw [HD.out] at hTM
  have hTM' : (0 < M → T + 1 = Z) ∧ (¬ (0 < M) → T = Z) := by rw [HZ.out]; exact hTM
  have bT : B k T := by rw [hT]; exact qgx _ hXn.2
  have bO : B k 1 := qgv (qnv hX.2)
  have cT : T.natAbs < pw k := bT
  have cO : (1 : Int).natAbs < pw k := bO
  have bZ : B (k + 1) Z := by
   by_cases hc : 0 < M
   ·rw [← hTM'.1 hc]; exact B_add bT bO
   ·rw [← hTM'.2 hc]; exact q3x (by omega) bT
  rw [← hT] at h3
  rw [← hM] at h4
  have q40 := B4.c0
  have q41 := B4.c1
  have HTM := Lib.hid hTM'
  clear hTM hTM' hT hM hX hXn hXV hbn B0 B1 hx1
  go_wp2_with fail
  refine (qtk _ M _ h4).mono ?_
  rintro e w3 ⟨rfl, hx3⟩
  have B3 := B3.ext hx3
  have h3 := h3.ext hx3
  have BR := BR.ext hx3
  have hE3 := hE1.trans hx3
  obtain ⟨sr, hsr⟩ : ∃ s, s = M.sign := ⟨_, rfl⟩
  rw [← hsr]
  by_cases hc : 0 < M
  ·have e1 : decide (0 < sr) = true := by
    rw [hsr]; rcases q83 M with ⟨a, b⟩ | ⟨a, b⟩ | ⟨a, b⟩ <;> rw [b] <;> simp <;> omega
   have hr := HTM.out.1 (by omega)
   have HR := Lib.hid hr
   clear hc hr hsr
   have ks := KE.start (R := [w.heap.size + 1]) hE3 (by simp)
   have hbr : b ≠ w.heap.size + 1 := by have := HSZ.out; omega
   have kb : b ∉ [w.heap.size + 1] := by simpa using hbr
   have k30 : ∀ w', KE [w.heap.size + 1] w w3 w' → w'.cell? ⟨b, 0, none⟩ = some (.bool p) := fun w' h => (h.bx B3 kb).c0
   have k31 : ∀ w', KE [w.heap.size + 1] w w3 w' → w'.cell? ⟨b, 1, none⟩ = some (.slice A n m) := fun w' h => (h.bx B3 kb).c1
   go_upto_region 3 with fail
   go_region_held3 (fun w' => KE [w.heap.size + 1] w w3 w') ((repeat (first | assumption | apply KE.drew | apply KE.drewN | apply KE.alloc | (refine KE.set ?_ (by simp) _) | (refine KE.step ?_ (by assumption))))) (first
    | (go_at_call 46; (with_reducible refine (qob 1 _ (by decide) (by decide)).mono ?_); rintro e w4 ⟨v4, rfl, h5, hx4⟩; (obtain ⟨p5, A5, n5, c5, rfl⟩ := h5.shape))
    | (go_at_call 80; (with_reducible refine (qo0 _ _ _ _ k _ (h3.ext eAx) h5 cT cO hL).mono ?_); rintro e w5 ⟨v5, rfl, h6, hx5⟩; (obtain ⟨p6, A6, n6, c6, rfl⟩ := h6.shape); (have b2 := Box.ext BR (show Ext w3 w5 by repeat (first | (with_reducible exact Ext.refl _) | (with_reducible apply Ext.drew) | (with_reducible apply Ext.drewN) | (with_reducible refine Ext.trans ?_ (by assumption))))); have q0 := b2.c0; have q1 := b2.c1; have f0 := b2.frozen 0; have f1 := b2.frozen 1)
    )
   all_goals (rw [HR.out] at h6)
   all_goals go_wp2_with fail
   all_goals (
    obtain ⟨p1, p2, p3⟩ := h6.put b2
    refine bodyPost_ret (v := .agg #[.bool p6, .slice A6 n6 c6]) (by simp [results, Tryz.results57, go_sem, p2, p3]) rfl ?_
    exact ⟨_, rfl, ⟨p1, bZ⟩, KE.ext (R := [w.heap.size + 1]) (W0 := w3) (by assumption)⟩)
  ·have e1 : decide (0 < sr) = false := by
    rw [hsr]; rcases q83 M with ⟨a, b⟩ | ⟨a, b⟩ | ⟨a, b⟩ <;> rw [b] <;> simp <;> omega
   have hr := HTM.out.2 (by omega)
   rw [hr] at h3
   clear hc hr hsr
   have q30 := B3.c0
   have q31 := B3.c1
   have q0 := BR.c0
   have q1 := BR.c1
   have f0 := BR.frozen 0
   have f1 := BR.frozen 1
   go_wp2_with fail
   obtain ⟨p1, p2, p3⟩ := h3.put BR
   refine bodyPost_ret (v := .agg #[.bool p, .slice A n m]) (by simp [results, Tryz.results57, go_sem, p2, p3]) rfl ?_
   exact ⟨_, rfl, ⟨p1, bZ⟩, (hE3.set (by simp) _).set (by simp) _⟩
end Go.Proofs.YtljncdcjkdgkeaaGreatDoor.Rt
