/- Walks: Sign, Neg, Cmp, Sub, Of, Bits. -/
import Derived.Test.YtginogcdjplhiaaGreatDoorW8
set_option linter.unusedVariables false
set_option linter.unusedSimpArgs false
namespace Go.Proofs.YtginogcdjplhiaaGreatDoor.Big
open Go.RowKit
attribute [local go_sem ↓] Go.wp_at_zero Go.wp_at_succ

def IntPost (w : World) (z : Int) (e : Ending) (w' : World) : Prop := e = .returned (.int .i64 z) ∧ Ext w w'

set_option maxHeartbeats 1000000 in
theorem Sign_any (x : Value) (X : Int) (w : World) (hx : BigV w x X) : Calls Tryz.prog 35 #[x] w (IntPost w X.sign) := by
  obtain ⟨A, n, c, rfl, hd, ht⟩ := hx.form
  obtain ⟨-, h1, h2, hV, -⟩ := hd.inj
  have hp := ht.pos_iff hV
  rcases Int.lt_trichotomy X 0 with h | h | h
  · have hn : ((n : Int) == 0) = false := by simp; omega
    have e1 : decide (X < 0) = true := by simpa using h
    have HE := Lib.hid (Int.sign_eq_neg_one_of_neg h)
    clear hp
    go_enter Tryz.func35, Tryz.ntmps35
    go_wp2
    go_ret
    exact ⟨by rw [HE.out]; rfl, (Ext.refl w).alloc _⟩
  · subst h
    obtain rfl : n = 0 := by simp at hp; exact hp
    go_enter Tryz.func35, Tryz.ntmps35
    go_wp2
    go_ret
    exact ⟨rfl, (Ext.refl w).alloc _⟩
  · have hn : ((n : Int) == 0) = false := by simp; omega
    have e1 : decide (X < 0) = false := by simp; omega
    have HE := Lib.hid (Int.sign_eq_one_of_pos h)
    clear hp
    go_enter Tryz.func35, Tryz.ntmps35
    go_wp2
    go_ret
    exact ⟨by rw [HE.out]; rfl, (Ext.refl w).alloc _⟩

theorem sgn_neg' (x : Int) : sgn (!decide (x < 0)) x.natAbs = -x := by
  unfold sgn; by_cases h : x < 0 <;> simp [h] <;> omega

set_option maxHeartbeats 1000000 in
theorem Neg_any (x : Value) (X : Int) (w : World) (hx : BigV w x X) : Calls Tryz.prog 43 #[x] w (BigPost w (-X)) := by
  obtain ⟨A, n, c, rfl, hd, ht⟩ := hx.form
  obtain ⟨Z, hZ⟩ : ∃ Z, Z = -X := ⟨_, rfl⟩
  rw [← hZ]
  have HZ := Lib.hid hZ
  clear hZ
  go_enter Tryz.func43, Tryz.ntmps43
  go_wp2_with fail
  obtain ⟨B0, B1, hE0⟩ := boxes2 w 26 #[.bool (decide (X < 0)), .slice A n c] #[.bool false, .slice none 0 0]
  refine (signed_any _ _ _ _ _ (hd.ext hE0)).mono ?_
  rintro e w2 ⟨v2, rfl, hb2, hxB⟩
  rw [sgn_neg', ← HZ.out] at hb2
  obtain ⟨A3, n3, c3, rfl, hd3, ht3⟩ := hb2.form
  have b2 := B1.ext hxB
  have q0 := b2.c0
  have q1 := b2.c1
  have f0 := b2.frozen 0
  have f1 := b2.frozen 1
  go_wp2_with fail
  obtain ⟨p1, p2, p3⟩ := hb2.put b2
  refine bodyPost_ret (v := .agg #[.bool (decide (Z < 0)), .slice A3 n3 c3]) (by simp [results, Tryz.results43, go_sem, p2, p3]) rfl ?_
  exact ⟨_, rfl, p1, ((hE0.trans hxB).set (by simp) _).set (by simp) _⟩

def cmpZ (x y : Int) : Int := if x < y then -1 else if y < x then 1 else 0
theorem cmpZ_same1 {x y : Int} (hx : x < 0) (hy : y < 0) : cmpI y.natAbs x.natAbs = cmpZ x y := by
  unfold cmpI cmpZ; split <;> split <;> (try split) <;> (try split) <;> omega
theorem cmpZ_same2 {x y : Int} (hx : 0 ≤ x) (hy : 0 ≤ y) : cmpI x.natAbs y.natAbs = cmpZ x y := by
  unfold cmpI cmpZ; split <;> split <;> (try split) <;> (try split) <;> omega
theorem sign_cases (x : Int) : x < 0 ∧ x.sign = -1 ∨ x = 0 ∧ x.sign = 0 ∨ 0 < x ∧ x.sign = 1 := by
  rcases Int.lt_trichotomy x 0 with h | h | h
  · exact .inl ⟨h, Int.sign_eq_neg_one_of_neg h⟩
  · exact .inr (.inl ⟨h, by rw [h]; rfl⟩)
  · exact .inr (.inr ⟨h, Int.sign_eq_one_of_pos h⟩)

set_option maxHeartbeats 4000000 in
set_option maxRecDepth 100000 in
theorem Cmp_any (x y : Value) (X Y : Int) (w : World) (hx : BigV w x X) (hy : BigV w y Y) : Calls Tryz.prog 36 #[x, y] w (IntPost w (cmpZ X Y)) := by
  obtain ⟨A1, n1, c1, rfl, hd1, ht1⟩ := hx.form
  obtain ⟨A2, n2, c2, rfl, hd2, ht2⟩ := hy.form
  by_cases hs : X.sign = Y.sign
  · have e1 : (X.sign != Y.sign) = false := by simpa using hs
    by_cases hn : X < 0
    · have hY : Y < 0 := by
        rcases sign_cases X with ⟨a, b⟩ | ⟨a, b⟩ | ⟨a, b⟩ <;> rcases sign_cases Y with ⟨c, d⟩ | ⟨c, d⟩ | ⟨c, d⟩ <;> omega
      have HC := Lib.hid (cmpZ_same1 hn hY)
      have HN := Lib.hid hn
      clear hs hn hY
      go_enter Tryz.func36, Tryz.ntmps36
      go_wp2_with fail
      obtain ⟨B0, B1, hE0⟩ := boxes2 w 26 #[.bool (decide (X < 0)), .slice A1 n1 c1] #[.bool (decide (Y < 0)), .slice A2 n2 c2]
      generalize ((w.alloc (.cells #[.bool (decide (X < 0)), .slice A1 n1 c1] 26)).alloc (.cells #[.bool (decide (Y < 0)), .slice A2 n2 c2] 26)) = W0 at *
      have k00 := KE.c0 (w := w) B0 (show w.heap.size ∉ [w.heap.size + 1 + 1] by simp; omega)
      have k01 := KE.c1 (w := w) B0 (show w.heap.size ∉ [w.heap.size + 1 + 1] by simp; omega)
      have k10 := KE.c0 (w := w) B1 (show w.heap.size + 1 ∉ [w.heap.size + 1 + 1] by simp)
      have k11 := KE.c1 (w := w) B1 (show w.heap.size + 1 ∉ [w.heap.size + 1 + 1] by simp)
      have ks := KE.start (R := [w.heap.size + 1 + 1]) hE0 (by simp; omega)
      go_region_held3 (fun w' => KE [w.heap.size + 1 + 1] w W0 w') ((repeat (first | assumption | apply KE.drew | apply KE.drewN | (refine KE.set ?_ (by simp) _) | (refine KE.step ?_ (by assumption))))) (first | (go_at_call 35; (with_reducible refine (Sign_any _ _ _ (hx.ext (KE.ext (by assumption)))).mono ?_); rintro e w1 ⟨rfl, hxA⟩) | (go_at_call 35; (with_reducible refine (Sign_any _ _ _ (hy.ext (KE.ext (by assumption)))).mono ?_); rintro e w2 ⟨rfl, hxB⟩))
      have e2 : decide (X < 0) = true := by simpa using HN.out
      go_wp2_with fail
      refine (compare_any _ _ _ _ _ _ _ (hd2.ext (KE.ext (by assumption))) (hd1.ext (KE.ext (by assumption))) ht2 ht1).mono ?_
      rintro e w3 ⟨rfl, d, rfl⟩
      rw [HC.out]
      go_wp2_with fail
      go_ret
      exact ⟨rfl, Ext.drewN (KE.ext (R := [w.heap.size + 1 + 1]) (W0 := W0) (by assumption)) _⟩
    · have hX : 0 ≤ X := by omega
      have hY : 0 ≤ Y := by
        rcases sign_cases X with ⟨a, b⟩ | ⟨a, b⟩ | ⟨a, b⟩ <;> rcases sign_cases Y with ⟨c, d⟩ | ⟨c, d⟩ | ⟨c, d⟩ <;> omega
      have HC := Lib.hid (cmpZ_same2 hX hY)
      have HN := Lib.hid hn
      clear hs hn hX hY
      go_enter Tryz.func36, Tryz.ntmps36
      go_wp2_with fail
      obtain ⟨B0, B1, hE0⟩ := boxes2 w 26 #[.bool (decide (X < 0)), .slice A1 n1 c1] #[.bool (decide (Y < 0)), .slice A2 n2 c2]
      generalize ((w.alloc (.cells #[.bool (decide (X < 0)), .slice A1 n1 c1] 26)).alloc (.cells #[.bool (decide (Y < 0)), .slice A2 n2 c2] 26)) = W0 at *
      have k00 := KE.c0 (w := w) B0 (show w.heap.size ∉ [w.heap.size + 1 + 1] by simp; omega)
      have k01 := KE.c1 (w := w) B0 (show w.heap.size ∉ [w.heap.size + 1 + 1] by simp; omega)
      have k10 := KE.c0 (w := w) B1 (show w.heap.size + 1 ∉ [w.heap.size + 1 + 1] by simp)
      have k11 := KE.c1 (w := w) B1 (show w.heap.size + 1 ∉ [w.heap.size + 1 + 1] by simp)
      have ks := KE.start (R := [w.heap.size + 1 + 1]) hE0 (by simp; omega)
      go_region_held3 (fun w' => KE [w.heap.size + 1 + 1] w W0 w') ((repeat (first | assumption | apply KE.drew | apply KE.drewN | (refine KE.set ?_ (by simp) _) | (refine KE.step ?_ (by assumption))))) (first | (go_at_call 35; (with_reducible refine (Sign_any _ _ _ (hx.ext (KE.ext (by assumption)))).mono ?_); rintro e w1 ⟨rfl, hxA⟩) | (go_at_call 35; (with_reducible refine (Sign_any _ _ _ (hy.ext (KE.ext (by assumption)))).mono ?_); rintro e w2 ⟨rfl, hxB⟩))
      have e2 : decide (X < 0) = false := by simpa using HN.out
      go_wp2_with fail
      refine (compare_any _ _ _ _ _ _ _ (hd1.ext (KE.ext (by assumption))) (hd2.ext (KE.ext (by assumption))) ht1 ht2).mono ?_
      rintro e w3 ⟨rfl, d, rfl⟩
      rw [HC.out]
      go_wp2_with fail
      go_ret
      exact ⟨rfl, Ext.drewN (KE.ext (R := [w.heap.size + 1 + 1]) (W0 := W0) (by assumption)) _⟩
  · have e1 : (X.sign != Y.sign) = true := by simpa using hs
    by_cases hlt : X.sign < Y.sign
    · have e2 : decide (X.sign < Y.sign) = true := by simpa using hlt
      have hc : cmpZ X Y = -1 := by
        unfold cmpZ
        rcases sign_cases X with ⟨a, b⟩ | ⟨a, b⟩ | ⟨a, b⟩ <;> rcases sign_cases Y with ⟨c, d⟩ | ⟨c, d⟩ | ⟨c, d⟩ <;> (try rw [if_pos (by omega)]) <;> omega
      have HC := Lib.hid hc
      clear hc hs hlt
      go_enter Tryz.func36, Tryz.ntmps36
      go_wp2_with fail
      obtain ⟨B0, B1, hE0⟩ := boxes2 w 26 #[.bool (decide (X < 0)), .slice A1 n1 c1] #[.bool (decide (Y < 0)), .slice A2 n2 c2]
      generalize ((w.alloc (.cells #[.bool (decide (X < 0)), .slice A1 n1 c1] 26)).alloc (.cells #[.bool (decide (Y < 0)), .slice A2 n2 c2] 26)) = W0 at *
      have k00 := KE.c0 (w := w) B0 (show w.heap.size ∉ [w.heap.size + 1 + 1] by simp; omega)
      have k01 := KE.c1 (w := w) B0 (show w.heap.size ∉ [w.heap.size + 1 + 1] by simp; omega)
      have k10 := KE.c0 (w := w) B1 (show w.heap.size + 1 ∉ [w.heap.size + 1 + 1] by simp)
      have k11 := KE.c1 (w := w) B1 (show w.heap.size + 1 ∉ [w.heap.size + 1 + 1] by simp)
      have ks := KE.start (R := [w.heap.size + 1 + 1]) hE0 (by simp; omega)
      go_region_held3 (fun w' => KE [w.heap.size + 1 + 1] w W0 w') ((repeat (first | assumption | apply KE.drew | apply KE.drewN | (refine KE.set ?_ (by simp) _) | (refine KE.step ?_ (by assumption))))) (first | (go_at_call 35; (with_reducible refine (Sign_any _ _ _ (hx.ext (KE.ext (by assumption)))).mono ?_); rintro e w1 ⟨rfl, hxA⟩) | (go_at_call 35; (with_reducible refine (Sign_any _ _ _ (hy.ext (KE.ext (by assumption)))).mono ?_); rintro e w2 ⟨rfl, hxB⟩))
      go_wp2_with fail
      clear hxA hxB
      go_region_held3 (fun w' => KE [w.heap.size + 1 + 1] w W0 w') ((repeat (first | assumption | apply KE.drew | apply KE.drewN | (refine KE.set ?_ (by simp) _) | (refine KE.step ?_ (by assumption))))) (first | (go_at_call 35; (with_reducible refine (Sign_any _ _ _ (hx.ext (KE.ext (by assumption)))).mono ?_); rintro e w1 ⟨rfl, hxA⟩) | (go_at_call 35; (with_reducible refine (Sign_any _ _ _ (hy.ext (KE.ext (by assumption)))).mono ?_); rintro e w2 ⟨rfl, hxB⟩))
      go_wp2_with fail
      go_ret
      exact ⟨by rw [HC.out]; rfl, KE.ext (R := [w.heap.size + 1 + 1]) (W0 := W0) (by assumption)⟩
    · have e2 : decide (X.sign < Y.sign) = false := by simpa using hlt
      have hc : cmpZ X Y = 1 := by
        unfold cmpZ
        rcases sign_cases X with ⟨a, b⟩ | ⟨a, b⟩ | ⟨a, b⟩ <;> rcases sign_cases Y with ⟨c, d⟩ | ⟨c, d⟩ | ⟨c, d⟩ <;> (try rw [if_neg (by omega), if_pos (by omega)]) <;> omega
      have HC := Lib.hid hc
      clear hc hs hlt
      go_enter Tryz.func36, Tryz.ntmps36
      go_wp2_with fail
      obtain ⟨B0, B1, hE0⟩ := boxes2 w 26 #[.bool (decide (X < 0)), .slice A1 n1 c1] #[.bool (decide (Y < 0)), .slice A2 n2 c2]
      generalize ((w.alloc (.cells #[.bool (decide (X < 0)), .slice A1 n1 c1] 26)).alloc (.cells #[.bool (decide (Y < 0)), .slice A2 n2 c2] 26)) = W0 at *
      have k00 := KE.c0 (w := w) B0 (show w.heap.size ∉ [w.heap.size + 1 + 1] by simp; omega)
      have k01 := KE.c1 (w := w) B0 (show w.heap.size ∉ [w.heap.size + 1 + 1] by simp; omega)
      have k10 := KE.c0 (w := w) B1 (show w.heap.size + 1 ∉ [w.heap.size + 1 + 1] by simp)
      have k11 := KE.c1 (w := w) B1 (show w.heap.size + 1 ∉ [w.heap.size + 1 + 1] by simp)
      have ks := KE.start (R := [w.heap.size + 1 + 1]) hE0 (by simp; omega)
      go_region_held3 (fun w' => KE [w.heap.size + 1 + 1] w W0 w') ((repeat (first | assumption | apply KE.drew | apply KE.drewN | (refine KE.set ?_ (by simp) _) | (refine KE.step ?_ (by assumption))))) (first | (go_at_call 35; (with_reducible refine (Sign_any _ _ _ (hx.ext (KE.ext (by assumption)))).mono ?_); rintro e w1 ⟨rfl, hxA⟩) | (go_at_call 35; (with_reducible refine (Sign_any _ _ _ (hy.ext (KE.ext (by assumption)))).mono ?_); rintro e w2 ⟨rfl, hxB⟩))
      go_wp2_with fail
      clear hxA hxB
      go_region_held3 (fun w' => KE [w.heap.size + 1 + 1] w W0 w') ((repeat (first | assumption | apply KE.drew | apply KE.drewN | (refine KE.set ?_ (by simp) _) | (refine KE.step ?_ (by assumption))))) (first | (go_at_call 35; (with_reducible refine (Sign_any _ _ _ (hx.ext (KE.ext (by assumption)))).mono ?_); rintro e w1 ⟨rfl, hxA⟩) | (go_at_call 35; (with_reducible refine (Sign_any _ _ _ (hy.ext (KE.ext (by assumption)))).mono ?_); rintro e w2 ⟨rfl, hxB⟩))
      go_wp2_with fail
      go_ret
      exact ⟨by rw [HC.out]; rfl, KE.ext (R := [w.heap.size + 1 + 1]) (W0 := W0) (by assumption)⟩

end Go.Proofs.YtginogcdjplhiaaGreatDoor.Big
