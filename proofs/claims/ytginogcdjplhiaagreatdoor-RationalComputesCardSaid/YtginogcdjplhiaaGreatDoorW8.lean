/- Walks: Mul, Add. -/
import Derived.Test.YtginogcdjplhiaaGreatDoorW7
import Derived.Deep.RegionHeld3
import Derived.Deep.DrawnRows
set_option linter.unusedVariables false
set_option linter.unusedSimpArgs false
namespace Go.Proofs.YtginogcdjplhiaaGreatDoor.Big
open Go.RowKit
attribute [local go_sem ↓] Go.wp_at_zero Go.wp_at_succ

set_option maxHeartbeats 4000000 in
theorem Mul_any (x y : Value) (X Y : Int) (L : Nat) (w : World) (hx : BigV w x X) (hy : BigV w y Y) (bx : X.natAbs < pw L) (bY : Y.natAbs < pw L) (hL : L ≤ 1099511627776) :
    Calls Tryz.prog 33 #[x, y] w (BigPost w (X * Y)) := by
  obtain ⟨s1, n1, rfl, hd1, ht1⟩ := hx
  obtain ⟨s2, n2, rfl, hd2, ht2⟩ := hy
  have l1 := ht1.le bx
  have l2 := ht2.le bY
  go_enter Tryz.func33, Tryz.ntmps33
  go_wp2_with fail
  obtain ⟨B0, B1, B2, hE0⟩ := boxes3 w 26 #[.bool (decide (X < 0)), s1] #[.bool (decide (Y < 0)), s2] #[.bool false, .slice none 0 0]
  generalize (((w.alloc (.cells #[.bool (decide (X < 0)), s1] 26)).alloc (.cells #[.bool (decide (Y < 0)), s2] 26)).alloc (.cells #[.bool false, .slice none 0 0] 26)) = W0 at *
  have k00 := KE.c0 (w := w) B0 (show w.heap.size ∉ [w.heap.size + 1 + 1] by simp; omega)
  have k01 := KE.c1 (w := w) B0 (show w.heap.size ∉ [w.heap.size + 1 + 1] by simp; omega)
  have k10 := KE.c0 (w := w) B1 (show w.heap.size + 1 ∉ [w.heap.size + 1 + 1] by simp)
  have k11 := KE.c1 (w := w) B1 (show w.heap.size + 1 ∉ [w.heap.size + 1 + 1] by simp)
  have ks := KE.start (R := [w.heap.size + 1 + 1]) hE0 (by simp; omega)
  go_region_held3 (fun w' => KE [w.heap.size + 1 + 1] w W0 w') ((repeat (first | assumption | apply KE.drew | apply KE.drewN | (refine KE.set ?_ (by simp) _) | (refine KE.step ?_ (by assumption))))) (first | (go_at_call 60; refine (product_any _ _ _ _ _ _ _ (hd1.ext (KE.ext (by assumption))) (hd2.ext (KE.ext (by assumption))) (by omega)).mono ?_; rintro e w1 ⟨v, n', rfl, hd, ht, hxA⟩) | (go_at_call 59; refine (signed_any _ _ _ _ _ hd).mono ?_; rintro e w2 ⟨v2, rfl, hb2, hxB⟩; rw [sgn_mul] at hb2; obtain ⟨A3, n3, c3, rfl, hd3, ht3⟩ := hb2.form; have b2 := (B2.drew.ext hxA).ext hxB; have q0 := b2.c0; have q1 := b2.c1; have f0 := b2.frozen 0; have f1 := b2.frozen 1))
  obtain ⟨p1, p2, p3⟩ := hb2.put b2
  go_wp2_with fail
  refine bodyPost_ret (v := .agg #[.bool (decide (X * Y < 0)), .slice A3 n3 c3]) (by simp [results, Tryz.results33, go_sem, p2, p3]) rfl ?_
  exact ⟨_, rfl, p1, KE.ext (by assumption)⟩

theorem sgn_add1 {x y : Int} (h : (decide (x < 0) == decide (y < 0)) = true) : sgn (decide (x < 0)) (x.natAbs + y.natAbs) = x + y := by
  unfold sgn
  by_cases hx : x < 0 <;> by_cases hy : y < 0 <;> simp [hx, hy] at h ⊢ <;> omega
theorem sgn_add2 {x y : Int} (h : (decide (x < 0) == decide (y < 0)) = false) (hl : y.natAbs ≤ x.natAbs) : sgn (decide (x < 0)) (x.natAbs - y.natAbs) = x + y := by
  unfold sgn
  by_cases hx : x < 0 <;> by_cases hy : y < 0 <;> simp [hx, hy] at h ⊢ <;> omega
theorem sgn_add3 {x y : Int} (h : (decide (x < 0) == decide (y < 0)) = false) (hl : x.natAbs ≤ y.natAbs) : sgn (decide (y < 0)) (y.natAbs - x.natAbs) = x + y := by
  unfold sgn
  by_cases hx : x < 0 <;> by_cases hy : y < 0 <;> simp [hx, hy] at h ⊢ <;> omega
theorem cmpI_nonneg {X Y : Nat} : 0 ≤ cmpI X Y ↔ Y ≤ X := by unfold cmpI; split <;> (try split) <;> omega
theorem trm_le {n m X Y : Nat} (hX : X < pw n) (tY : Trm m Y) (h : Y ≤ X) : m ≤ n := tY.le (Nat.lt_of_le_of_lt h hX)

set_option maxHeartbeats 4000000 in
theorem Add_any (x y : Value) (X Y : Int) (L : Nat) (w : World) (hx : BigV w x X) (hy : BigV w y Y) (bx : X.natAbs < pw L) (bY : Y.natAbs < pw L) (hL : L ≤ 1099511627776) :
    Calls Tryz.prog 40 #[x, y] w (BigPost w (X + Y)) := by
  obtain ⟨s1, n1, rfl, hd1, ht1⟩ := hx
  obtain ⟨s2, n2, rfl, hd2, ht2⟩ := hy
  have l1 := ht1.le bx
  have l2 := ht2.le bY
  by_cases hs : (decide (X < 0) == decide (Y < 0)) = true
  · have HS := Lib.hid hs
    go_enter Tryz.func40, Tryz.ntmps40
    go_wp2_with fail
    obtain ⟨B0, B1, B2, hE0⟩ := boxes3 w 26 #[.bool (decide (X < 0)), s1] #[.bool (decide (Y < 0)), s2] #[.bool false, .slice none 0 0]
    generalize (((w.alloc (.cells #[.bool (decide (X < 0)), s1] 26)).alloc (.cells #[.bool (decide (Y < 0)), s2] 26)).alloc (.cells #[.bool false, .slice none 0 0] 26)) = W0 at *
    have k00 := KE.c0 (w := w) B0 (show w.heap.size ∉ [w.heap.size + 1 + 1] by simp; omega)
    have k01 := KE.c1 (w := w) B0 (show w.heap.size ∉ [w.heap.size + 1 + 1] by simp; omega)
    have k10 := KE.c0 (w := w) B1 (show w.heap.size + 1 ∉ [w.heap.size + 1 + 1] by simp)
    have k11 := KE.c1 (w := w) B1 (show w.heap.size + 1 ∉ [w.heap.size + 1 + 1] by simp)
    have ks := KE.start (R := [w.heap.size + 1 + 1]) hE0 (by simp; omega)
    go_region_held3 (fun w' => KE [w.heap.size + 1 + 1] w W0 w') ((repeat (first | assumption | apply KE.drew | apply KE.drewN | (refine KE.set ?_ (by simp) _) | (refine KE.step ?_ (by assumption))))) (first | (go_at_call 63; refine (sum_any _ _ _ _ _ _ _ (hd1.ext (KE.ext (by assumption))) (hd2.ext (KE.ext (by assumption))) (by omega) (by omega)).mono ?_; rintro e w1 ⟨v, n', rfl, hd, ht, hxA⟩) | (go_at_call 59; refine (signed_any _ _ _ _ _ hd).mono ?_; rintro e w2 ⟨v2, rfl, hb2, hxB⟩; rw [sgn_add1 HS.out] at hb2; obtain ⟨A3, n3, c3, rfl, hd3, ht3⟩ := hb2.form; have b2 := (B2.drew.ext hxA).ext hxB; have q0 := b2.c0; have q1 := b2.c1; have f0 := b2.frozen 0; have f1 := b2.frozen 1))
    obtain ⟨p1, p2, p3⟩ := hb2.put b2
    go_wp2_with fail
    refine bodyPost_ret (v := .agg #[.bool (decide (X + Y < 0)), .slice A3 n3 c3]) (by simp [results, Tryz.results40, go_sem, p2, p3]) rfl ?_
    exact ⟨_, rfl, p1, KE.ext (by assumption)⟩
  · have hs : (decide (X < 0) == decide (Y < 0)) = false := by simpa using hs
    have HS := Lib.hid hs
    by_cases hle : Y.natAbs ≤ X.natAbs
    · have hc := cmpI_nonneg.2 hle
      have hmn := trm_le (show X.natAbs < pw n1 by obtain ⟨_, _, _, _, _, h, _⟩ := hd1; exact h) ht2 hle
      go_enter Tryz.func40, Tryz.ntmps40
      go_wp2_with fail
      obtain ⟨B0, B1, B2, hE0⟩ := boxes3 w 26 #[.bool (decide (X < 0)), s1] #[.bool (decide (Y < 0)), s2] #[.bool false, .slice none 0 0]
      generalize (((w.alloc (.cells #[.bool (decide (X < 0)), s1] 26)).alloc (.cells #[.bool (decide (Y < 0)), s2] 26)).alloc (.cells #[.bool false, .slice none 0 0] 26)) = W0 at *
      have k00 := KE.c0 (w := w) B0 (show w.heap.size ∉ [w.heap.size + 1 + 1] by simp; omega)
      have k01 := KE.c1 (w := w) B0 (show w.heap.size ∉ [w.heap.size + 1 + 1] by simp; omega)
      have k10 := KE.c0 (w := w) B1 (show w.heap.size + 1 ∉ [w.heap.size + 1 + 1] by simp)
      have k11 := KE.c1 (w := w) B1 (show w.heap.size + 1 ∉ [w.heap.size + 1 + 1] by simp)
      have ks := KE.start (R := [w.heap.size + 1 + 1]) hE0 (by simp; omega)
      refine (compare_any _ _ _ _ _ _ _ (hd1.ext hE0) (hd2.ext hE0) ht1 ht2).mono ?_
      rintro e w1 ⟨rfl, d, rfl⟩
      have ks1 := ks.drewN d
      obtain ⟨q, hq⟩ : ∃ q, q = cmpI X.natAbs Y.natAbs := ⟨_, rfl⟩
      rw [← hq] at hc ⊢
      clear hq
      go_wp2_with fail
      go_region_held3 (fun w' => KE [w.heap.size + 1 + 1] w W0 w') ((repeat (first | assumption | apply KE.drew | apply KE.drewN | (refine KE.set ?_ (by simp) _) | (refine KE.step ?_ (by assumption))))) (first | (go_at_call 64; refine (difference_any _ _ _ _ _ _ _ (hd1.ext (KE.ext (by assumption))) (hd2.ext (KE.ext (by assumption))) hmn hle).mono ?_; rintro e w1 ⟨v, n', rfl, hd, ht, hxA⟩) | (go_at_call 59; refine (signed_any _ _ _ _ _ hd).mono ?_; rintro e w2 ⟨v2, rfl, hb2, hxB⟩; rw [sgn_add2 HS.out hle] at hb2; obtain ⟨A3, n3, c3, rfl, hd3, ht3⟩ := hb2.form; have b2 := ((B2.drewN d).drew.ext hxA).ext hxB; have q0 := b2.c0; have q1 := b2.c1; have f0 := b2.frozen 0; have f1 := b2.frozen 1))
      obtain ⟨p1, p2, p3⟩ := hb2.put b2
      go_wp2_with fail
      refine bodyPost_ret (v := .agg #[.bool (decide (X + Y < 0)), .slice A3 n3 c3]) (by simp [results, Tryz.results40, go_sem, p2, p3]) rfl ?_
      exact ⟨_, rfl, p1, KE.ext (by assumption)⟩
    · have hle' : X.natAbs ≤ Y.natAbs := by omega
      have hc : cmpI X.natAbs Y.natAbs < 0 := Int.not_le.1 fun h => hle (cmpI_nonneg.1 h)
      have hmn := trm_le (show Y.natAbs < pw n2 by obtain ⟨_, _, _, _, _, h, _⟩ := hd2; exact h) ht1 hle'
      go_enter Tryz.func40, Tryz.ntmps40
      go_wp2_with fail
      obtain ⟨B0, B1, B2, hE0⟩ := boxes3 w 26 #[.bool (decide (X < 0)), s1] #[.bool (decide (Y < 0)), s2] #[.bool false, .slice none 0 0]
      generalize (((w.alloc (.cells #[.bool (decide (X < 0)), s1] 26)).alloc (.cells #[.bool (decide (Y < 0)), s2] 26)).alloc (.cells #[.bool false, .slice none 0 0] 26)) = W0 at *
      have k00 := KE.c0 (w := w) B0 (show w.heap.size ∉ [w.heap.size + 1 + 1] by simp; omega)
      have k01 := KE.c1 (w := w) B0 (show w.heap.size ∉ [w.heap.size + 1 + 1] by simp; omega)
      have k10 := KE.c0 (w := w) B1 (show w.heap.size + 1 ∉ [w.heap.size + 1 + 1] by simp)
      have k11 := KE.c1 (w := w) B1 (show w.heap.size + 1 ∉ [w.heap.size + 1 + 1] by simp)
      have ks := KE.start (R := [w.heap.size + 1 + 1]) hE0 (by simp; omega)
      refine (compare_any _ _ _ _ _ _ _ (hd1.ext hE0) (hd2.ext hE0) ht1 ht2).mono ?_
      rintro e w1 ⟨rfl, d, rfl⟩
      have ks1 := ks.drewN d
      obtain ⟨q, hq⟩ : ∃ q, q = cmpI X.natAbs Y.natAbs := ⟨_, rfl⟩
      rw [← hq] at hc ⊢
      clear hq
      go_wp2_with fail
      go_region_held3 (fun w' => KE [w.heap.size + 1 + 1] w W0 w') ((repeat (first | assumption | apply KE.drew | apply KE.drewN | (refine KE.set ?_ (by simp) _) | (refine KE.step ?_ (by assumption))))) (first | (go_at_call 64; refine (difference_any _ _ _ _ _ _ _ (hd2.ext (KE.ext (by assumption))) (hd1.ext (KE.ext (by assumption))) hmn hle').mono ?_; rintro e w1 ⟨v, n', rfl, hd, ht, hxA⟩) | (go_at_call 59; refine (signed_any _ _ _ _ _ hd).mono ?_; rintro e w2 ⟨v2, rfl, hb2, hxB⟩; rw [sgn_add3 HS.out hle'] at hb2; obtain ⟨A3, n3, c3, rfl, hd3, ht3⟩ := hb2.form; have b2 := ((B2.drewN d).drew.ext hxA).ext hxB; have q0 := b2.c0; have q1 := b2.c1; have f0 := b2.frozen 0; have f1 := b2.frozen 1))
      obtain ⟨p1, p2, p3⟩ := hb2.put b2
      go_wp2_with fail
      refine bodyPost_ret (v := .agg #[.bool (decide (X + Y < 0)), .slice A3 n3 c3]) (by simp [results, Tryz.results40, go_sem, p2, p3]) rfl ?_
      exact ⟨_, rfl, p1, KE.ext (by assumption)⟩

end Go.Proofs.YtginogcdjplhiaaGreatDoor.Big
