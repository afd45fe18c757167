/- Walks: the rational numbers' Cmp, Add, Sub, Mul, Div. Walks: the rational numbers' Add, Sub. -/
import Derived.Test.YtljncdcjkdgkeaaGreatDoorYW17
set_option linter.unusedVariables false
set_option linter.unusedSimpArgs false
namespace Go.Proofs.YtljncdcjkdgkeaaGreatDoor.Rt
open Go.RowKit Go.Proofs.YtljncdcjkdgkeaaGreatDoor.Big
theorem RatB.numB {w : World} {p p' : Bool} {A A' : Option Addr} {n c n' c' : Nat} {q : Rat} {k : Nat} (h : RatB w (.agg #[.bool p, .slice A n c, .bool p', .slice A' n' c']) q k) : BigB w (.agg #[.bool p, .slice A n c]) q.num k := ⟨h.1.parts.1, h.2.1⟩
theorem cmpZ_Q (x y : Rat) : cmpZ (x.num * y.den) (y.num * x.den) = cmpQ x y := by
 unfold cmpZ cmpQ
 simp only [Rat.lt_iff]
set_option maxHeartbeats 4000000 in
theorem q8w (x y : Value) (X Y : Rat) (j k : Nat) (w : World) (hx : RatB w x X j) (hy : RatB w y Y k) (hL : max j k ≤ 549755813888) : Calls Tryz.prog 23 #[x, y] w (qni w (cmpQ X Y)) := by
 obtain ⟨p1, A1, n1, c1, p1', A1', n1', c1', rfl⟩ := hx.1.shape
 obtain ⟨p2, A2, n2, c2, p2', A2', n2', c2', rfl⟩ := hy.1.shape
 go_enter Tryz.func23, Tryz.ntmps23
 go_wp2_with fail
 obtain ⟨B0, B1, hE0⟩ := qwt w 58 58 #[.bool p1, .slice A1 n1 c1, .bool p1', .slice A1' n1' c1'] #[.bool p2, .slice A2 n2 c2, .bool p2', .slice A2' n2' c2']
 have hX := hx.ext hE0
 have hY := hy.ext hE0
 have hXn := hX.numB
 have hYn := hY.numB
 generalize ((w.alloc (.cells #[.bool p1, .slice A1 n1 c1, .bool p1', .slice A1' n1' c1'] 58)).alloc (.cells #[.bool p2, .slice A2 n2 c2, .bool p2', .slice A2' n2' c2'] 58)) = W at *
 clear hx hy
 have k00 : ∀ w', Later W w' → w'.cell? ⟨_, 0, none⟩ = some _ := fun w' h => (B0.ext h).c0
 have k01 : ∀ w', Later W w' → w'.cell? ⟨_, 1, none⟩ = some _ := fun w' h => (B0.ext h).c1
 have k02 : ∀ w', Later W w' → w'.cell? ⟨_, 2, none⟩ = some _ := fun w' h => (B0.ext h).c2
 have k03 : ∀ w', Later W w' → w'.cell? ⟨_, 3, none⟩ = some _ := fun w' h => (B0.ext h).c3
 have k10 : ∀ w', Later W w' → w'.cell? ⟨_, 0, none⟩ = some _ := fun w' h => (B1.ext h).c0
 have k11 : ∀ w', Later W w' → w'.cell? ⟨_, 1, none⟩ = some _ := fun w' h => (B1.ext h).c1
 have k12 : ∀ w', Later W w' → w'.cell? ⟨_, 2, none⟩ = some _ := fun w' h => (B1.ext h).c2
 have k13 : ∀ w', Later W w' → w'.cell? ⟨_, 3, none⟩ = some _ := fun w' h => (B1.ext h).c3
 have hS0 := Later.refl W
 go_region_held3 (fun w' => Later W w') ((repeat (first | assumption | apply Later.drew | apply Later.drewN | apply Later.alloc | (refine Later.step ?_ (by assumption))))) (first
  | (go_at_call 44; (with_reducible refine (q07 _ _ _ _ (RatB.ext (by assumption) eAx)).mono ?_); rintro e wk ⟨vk, rfl, hbk, hxk⟩; (obtain ⟨pk, Ak, nk, ck, rfl⟩ := hbk.1.shape))
  | (go_at_call 63; (with_reducible refine (q44 _ _ _ _ _ _ _ (BigB.ext (by assumption) eAx) (BigB.ext (by assumption) eAx) (by omega)).mono ?_); rintro e wk ⟨vk, rfl, hbk, hxk⟩; (obtain ⟨pk, Ak, nk, ck, rfl⟩ := hbk.1.shape))
  | (go_at_call 80; (with_reducible refine (qgk _ _ _ _ _ _ _ (BigB.ext (by assumption) eAx) (BigB.ext (by assumption) eAx) (by omega)).mono ?_); rintro e wk ⟨vk, rfl, hbk, hxk⟩; (obtain ⟨pk, Ak, nk, ck, rfl⟩ := hbk.1.shape))
  | (go_at_call 45; (with_reducible refine (qc9 _ _ _ _ _ _ _ (BigB.ext (by assumption) eAx) (BigB.ext (by assumption) eAx)).mono ?_); rintro e wk ⟨rfl, hxk⟩)
  | (go_at_call 89; (with_reducible refine (qyu _ _ _ _ (BigB.ext (by assumption) eAx)).mono ?_); rintro e wk ⟨vk, rfl, hbk, hxk⟩; (obtain ⟨pk, Ak, nk, ck, rfl⟩ := hbk.1.shape))
  )
 all_goals go_wp2_with fail
 all_goals go_ret
 all_goals exact ⟨by rw [← cmpZ_Q]; rfl, hE0.trans (show Later W _ by assumption)⟩
theorem q88 (X Y : Rat) : (X.den : Int) * Y.den ≠ 0 := by have := X.den_pos; have := Y.den_pos; exact Int.mul_ne_zero (by omega) (by omega)
set_option maxHeartbeats 4000000 in
theorem qmy (x y : Value) (X Y : Rat) (j k : Nat) (w : World) (hx : RatB w x X j) (hy : RatB w y Y k) (hL : max j k ≤ 549755813888) : Calls Tryz.prog 87 #[x, y] w (q3z w (X * Y) (j + k)) := by
 have hQ := qvy hx.2 hy.2
 obtain ⟨q, hq⟩ : ∃ q, q = X * Y := ⟨_, rfl⟩
 rw [← hq] at hQ ⊢
 have HQ := Lib.hid (hq.trans (mul_eq X Y))
 have HD0 := Lib.hid (q88 X Y)
 clear hq
 obtain ⟨p1, A1, n1, c1, p1', A1', n1', c1', rfl⟩ := hx.1.shape
 obtain ⟨p2, A2, n2, c2, p2', A2', n2', c2', rfl⟩ := hy.1.shape
 go_enter Tryz.func87, Tryz.ntmps87
 go_wp2_with fail
 obtain ⟨B0, B1, B2, hE0⟩ := boxesT3 w 58 58 58 #[.bool p1, .slice A1 n1 c1, .bool p1', .slice A1' n1' c1'] #[.bool p2, .slice A2 n2 c2, .bool p2', .slice A2' n2' c2'] #[.bool false, .slice none 0 0, .bool false, .slice none 0 0]
 have hX := hx.ext hE0
 have hY := hy.ext hE0
 have hXn := hX.numB
 have hYn := hY.numB
 generalize (((w.alloc (.cells #[.bool p1, .slice A1 n1 c1, .bool p1', .slice A1' n1' c1'] 58)).alloc (.cells #[.bool p2, .slice A2 n2 c2, .bool p2', .slice A2' n2' c2'] 58)).alloc (.cells #[.bool false, .slice none 0 0, .bool false, .slice none 0 0] 58)) = W0 at *
 have ks := KE.start (R := [w.heap.size + 1 + 1]) hE0 (by simp; omega)
 have kb0 : w.heap.size ∉ [w.heap.size + 1 + 1] := by simp; omega
 have kb1 : w.heap.size + 1 ∉ [w.heap.size + 1 + 1] := by simp
 have k00 : ∀ w', KE [w.heap.size + 1 + 1] w W0 w' → w'.cell? ⟨_, 0, none⟩ = some _ := fun w' h => (h.bx B0 kb0).c0
 have k01 : ∀ w', KE [w.heap.size + 1 + 1] w W0 w' → w'.cell? ⟨_, 1, none⟩ = some _ := fun w' h => (h.bx B0 kb0).c1
 have k02 : ∀ w', KE [w.heap.size + 1 + 1] w W0 w' → w'.cell? ⟨_, 2, none⟩ = some _ := fun w' h => (h.bx B0 kb0).c2
 have k03 : ∀ w', KE [w.heap.size + 1 + 1] w W0 w' → w'.cell? ⟨_, 3, none⟩ = some _ := fun w' h => (h.bx B0 kb0).c3
 have k10 : ∀ w', KE [w.heap.size + 1 + 1] w W0 w' → w'.cell? ⟨_, 0, none⟩ = some _ := fun w' h => (h.bx B1 kb1).c0
 have k11 : ∀ w', KE [w.heap.size + 1 + 1] w W0 w' → w'.cell? ⟨_, 1, none⟩ = some _ := fun w' h => (h.bx B1 kb1).c1
 have k12 : ∀ w', KE [w.heap.size + 1 + 1] w W0 w' → w'.cell? ⟨_, 2, none⟩ = some _ := fun w' h => (h.bx B1 kb1).c2
 have k13 : ∀ w', KE [w.heap.size + 1 + 1] w W0 w' → w'.cell? ⟨_, 3, none⟩ = some _ := fun w' h => (h.bx B1 kb1).c3
 clear hx hy
 go_region_held3 (fun w' => KE [w.heap.size + 1 + 1] w W0 w') ((repeat (first | assumption | apply KE.drew | apply KE.drewN | apply KE.alloc | (refine KE.set ?_ (by simp) _) | (refine KE.step ?_ (by assumption))))) (first
  | (go_at_call 44; (with_reducible refine (q07 _ _ _ _ (RatB.ext (by assumption) eAx)).mono ?_); rintro e wk ⟨vk, rfl, hbk, hxk⟩; (obtain ⟨pk, Ak, nk, ck, rfl⟩ := hbk.1.shape))
  | (go_at_call 63; (with_reducible refine (q44 _ _ _ _ _ _ _ (BigB.ext (by assumption) eAx) (BigB.ext (by assumption) eAx) (by omega)).mono ?_); rintro e wk ⟨vk, rfl, hbk, hxk⟩; (obtain ⟨pk, Ak, nk, ck, rfl⟩ := hbk.1.shape))
  | (go_at_call 80; (with_reducible refine (qgk _ _ _ _ _ _ _ (BigB.ext (by assumption) eAx) (BigB.ext (by assumption) eAx) (by omega)).mono ?_); rintro e wk ⟨vk, rfl, hbk, hxk⟩; (obtain ⟨pk, Ak, nk, ck, rfl⟩ := hbk.1.shape))
  | (go_at_call 45; (with_reducible refine (qc9 _ _ _ _ _ _ _ (BigB.ext (by assumption) eAx) (BigB.ext (by assumption) eAx)).mono ?_); rintro e wk ⟨rfl, hxk⟩)
  | (go_at_call 89; (with_reducible refine (qyu _ _ _ _ (BigB.ext (by assumption) eAx)).mono ?_); rintro e wk ⟨vk, rfl, hbk, hxk⟩; (obtain ⟨pk, Ak, nk, ck, rfl⟩ := hbk.1.shape))
  | (go_at_call 60; (with_reducible refine (red_b _ _ _ _ _ _ _ (BigB.ext (by assumption) eAx) (BigB.ext (by assumption) eAx) (by omega) HD0.out).mono ?_); rintro e wk ⟨vk, rfl, hbk, hxk⟩; (obtain ⟨pk, Ak, nk, ck, pk', Ak', nk', ck', rfl⟩ := hbk.1.shape); (have b2 := Box.ext B2 (show Ext W0 wk by repeat (first | (with_reducible exact Ext.refl _) | (with_reducible apply Ext.drew) | (with_reducible apply Ext.drewN) | (with_reducible refine Ext.trans ?_ (by assumption))))); have q0 := b2.c0; have q1 := b2.c1; have q2 := b2.c2; have q3 := b2.c3; have f0 := b2.frozen 0; have f1 := b2.frozen 1; have f2 := b2.frozen 2; have f3 := b2.frozen 3)
  )
 all_goals (rw [← HQ.out] at hbk)
 all_goals go_wp2_with fail
 all_goals (
  obtain ⟨pp, pb⟩ := RatV.put hbk.1 b2
  have pc0 := pb.c0
  have pc1 := pb.c1
  have pc2 := pb.c2
  have pc3 := pb.c3
  refine bodyPost_ret (v := .agg #[.bool pk, .slice Ak nk ck, .bool pk', .slice Ak' nk' ck']) (by simp [results, Tryz.results87, go_sem, pc0, pc1, pc2, pc3]) rfl ?_
  exact ⟨_, rfl, ⟨pp, hQ⟩, KE.ext (R := [w.heap.size + 1 + 1]) (W0 := W0) (by assumption)⟩)
set_option maxHeartbeats 4000000 in
theorem qae (x y : Value) (X Y : Rat) (j k : Nat) (w : World) (hx : RatB w x X j) (hy : RatB w y Y k) (hL : max j k ≤ 549755813888) (hY0 : Y.num ≠ 0) : Calls Tryz.prog 185 #[x, y] w (qxu w (X / Y) (j + k)) := by
 have hQ := QB_div hx.2 hy.2 hY0
 obtain ⟨q, hq⟩ : ∃ q, q = X / Y := ⟨_, rfl⟩
 rw [← hq] at hQ ⊢
 have HQ := Lib.hid (hq.trans (div_eq X Y))
 have HD0 := Lib.hid (show (X.den : Int) * Y.num ≠ 0 by have := X.den_pos; exact Int.mul_ne_zero (by omega) hY0)
 obtain ⟨sd, hsd⟩ : ∃ s, s = Y.num.sign := ⟨_, rfl⟩
 have e1 : (sd == 0) = false := by rw [hsd]; exact q9n hY0
 have HS := Lib.hid hsd
 clear hq hsd hY0
 obtain ⟨p1, A1, n1, c1, p1', A1', n1', c1', rfl⟩ := hx.1.shape
 obtain ⟨p2, A2, n2, c2, p2', A2', n2', c2', rfl⟩ := hy.1.shape
 go_enter Tryz.func185, Tryz.ntmps185
 go_wp2_with fail
 obtain ⟨B0, B1, B2, hE0⟩ := boxesT3 w 58 58 58 #[.bool p1, .slice A1 n1 c1, .bool p1', .slice A1' n1' c1'] #[.bool p2, .slice A2 n2 c2, .bool p2', .slice A2' n2' c2'] #[.bool false, .slice none 0 0, .bool false, .slice none 0 0]
 have hX := hx.ext hE0
 have hY := hy.ext hE0
 have hXn := hX.numB
 have hYn := hY.numB
 generalize (((w.alloc (.cells #[.bool p1, .slice A1 n1 c1, .bool p1', .slice A1' n1' c1'] 58)).alloc (.cells #[.bool p2, .slice A2 n2 c2, .bool p2', .slice A2' n2' c2'] 58)).alloc (.cells #[.bool false, .slice none 0 0, .bool false, .slice none 0 0] 58)) = W0 at *
 have ks := KE.start (R := [w.heap.size + 1 + 1]) hE0 (by simp; omega)
 have kb0 : w.heap.size ∉ [w.heap.size + 1 + 1] := by simp; omega
 have kb1 : w.heap.size + 1 ∉ [w.heap.size + 1 + 1] := by simp
 have k00 : ∀ w', KE [w.heap.size + 1 + 1] w W0 w' → w'.cell? ⟨_, 0, none⟩ = some _ := fun w' h => (h.bx B0 kb0).c0
 have k01 : ∀ w', KE [w.heap.size + 1 + 1] w W0 w' → w'.cell? ⟨_, 1, none⟩ = some _ := fun w' h => (h.bx B0 kb0).c1
 have k02 : ∀ w', KE [w.heap.size + 1 + 1] w W0 w' → w'.cell? ⟨_, 2, none⟩ = some _ := fun w' h => (h.bx B0 kb0).c2
 have k03 : ∀ w', KE [w.heap.size + 1 + 1] w W0 w' → w'.cell? ⟨_, 3, none⟩ = some _ := fun w' h => (h.bx B0 kb0).c3
 have k10 : ∀ w', KE [w.heap.size + 1 + 1] w W0 w' → w'.cell? ⟨_, 0, none⟩ = some _ := fun w' h => (h.bx B1 kb1).c0
 have k11 : ∀ w', KE [w.heap.size + 1 + 1] w W0 w' → w'.cell? ⟨_, 1, none⟩ = some _ := fun w' h => (h.bx B1 kb1).c1
 have k12 : ∀ w', KE [w.heap.size + 1 + 1] w W0 w' → w'.cell? ⟨_, 2, none⟩ = some _ := fun w' h => (h.bx B1 kb1).c2
 have k13 : ∀ w', KE [w.heap.size + 1 + 1] w W0 w' → w'.cell? ⟨_, 3, none⟩ = some _ := fun w' h => (h.bx B1 kb1).c3
 clear hx hy
 refine (qpl _ _ _ _ hY).mono ?_
 rintro e w1 ⟨rfl, hx1⟩
 rw [← HS.out]
 have ks1 := ks.step hx1
 go_upto_region 3 with fail
 go_region_held3 (fun w' => KE [w.heap.size + 1 + 1] w W0 w') ((repeat (first | assumption | apply KE.drew | apply KE.drewN | apply KE.alloc | (refine KE.set ?_ (by simp) _) | (refine KE.step ?_ (by assumption))))) (first
  | (go_at_call 44; (with_reducible refine (q07 _ _ _ _ (RatB.ext (by assumption) eAx)).mono ?_); rintro e wk ⟨vk, rfl, hbk, hxk⟩; (obtain ⟨pk, Ak, nk, ck, rfl⟩ := hbk.1.shape))
  | (go_at_call 63; (with_reducible refine (q44 _ _ _ _ _ _ _ (BigB.ext (by assumption) eAx) (BigB.ext (by assumption) eAx) (by omega)).mono ?_); rintro e wk ⟨vk, rfl, hbk, hxk⟩; (obtain ⟨pk, Ak, nk, ck, rfl⟩ := hbk.1.shape))
  | (go_at_call 80; (with_reducible refine (qgk _ _ _ _ _ _ _ (BigB.ext (by assumption) eAx) (BigB.ext (by assumption) eAx) (by omega)).mono ?_); rintro e wk ⟨vk, rfl, hbk, hxk⟩; (obtain ⟨pk, Ak, nk, ck, rfl⟩ := hbk.1.shape))
  | (go_at_call 45; (with_reducible refine (qc9 _ _ _ _ _ _ _ (BigB.ext (by assumption) eAx) (BigB.ext (by assumption) eAx)).mono ?_); rintro e wk ⟨rfl, hxk⟩)
  | (go_at_call 89; (with_reducible refine (qyu _ _ _ _ (BigB.ext (by assumption) eAx)).mono ?_); rintro e wk ⟨vk, rfl, hbk, hxk⟩; (obtain ⟨pk, Ak, nk, ck, rfl⟩ := hbk.1.shape))
  | (go_at_call 60; (with_reducible refine (red_b _ _ _ _ _ _ _ (BigB.ext (by assumption) eAx) (BigB.ext (by assumption) eAx) (by omega) HD0.out).mono ?_); rintro e wk ⟨vk, rfl, hbk, hxk⟩; (obtain ⟨pk, Ak, nk, ck, pk', Ak', nk', ck', rfl⟩ := hbk.1.shape); (have b2 := Box.ext B2 (show Ext W0 wk by repeat (first | (with_reducible exact Ext.refl _) | (with_reducible apply Ext.drew) | (with_reducible apply Ext.drewN) | (with_reducible refine Ext.trans ?_ (by assumption))))); have q0 := b2.c0; have q1 := b2.c1; have q2 := b2.c2; have q3 := b2.c3; have f0 := b2.frozen 0; have f1 := b2.frozen 1; have f2 := b2.frozen 2; have f3 := b2.frozen 3)
  )
 all_goals (rw [← HQ.out] at hbk)
 all_goals go_wp2_with fail
 all_goals (
  obtain ⟨pp, pb⟩ := RatV.put hbk.1 b2
  have pc0 := pb.c0
  have pc1 := pb.c1
  have pc2 := pb.c2
  have pc3 := pb.c3
  refine bodyPost_ret (v := .tuple #[.agg #[.bool pk, .slice Ak nk ck, .bool pk', .slice Ak' nk' ck'], .int .i64 0]) (by simp [results, Tryz.results185, go_sem, pc0, pc1, pc2, pc3]) rfl ?_
  exact ⟨_, rfl, ⟨pp, hQ⟩, KE.ext (R := [w.heap.size + 1 + 1]) (W0 := W0) (by assumption)⟩)
set_option maxHeartbeats 8000000 in
theorem qcs (x y : Value) (X Y : Rat) (j k : Nat) (w : World) (hx : RatB w x X j) (hy : RatB w y Y k) (hL : max j k ≤ 274877906944) : Calls Tryz.prog 47 #[x, y] w (q3z w (X + Y) (j + k + 1)) := by
 have hQ := qa4 hx.2 hy.2
 obtain ⟨q, hq⟩ : ∃ q, q = X + Y := ⟨_, rfl⟩
 rw [← hq] at hQ ⊢
 have HQ := Lib.hid (hq.trans (add_eq X Y))
 have HD0 := Lib.hid (q88 X Y)
 clear hq
 obtain ⟨p1, A1, n1, c1, p1', A1', n1', c1', rfl⟩ := hx.1.shape
 obtain ⟨p2, A2, n2, c2, p2', A2', n2', c2', rfl⟩ := hy.1.shape
 go_enter Tryz.func47, Tryz.ntmps47
 go_wp2_with fail
 obtain ⟨B0, B1, B2, hE0⟩ := boxesT3 w 58 58 58 #[.bool p1, .slice A1 n1 c1, .bool p1', .slice A1' n1' c1'] #[.bool p2, .slice A2 n2 c2, .bool p2', .slice A2' n2' c2'] #[.bool false, .slice none 0 0, .bool false, .slice none 0 0]
 have hX := hx.ext hE0
 have hY := hy.ext hE0
 have hXn := hX.numB
 have hYn := hY.numB
 have hsz : (((w.alloc (.cells #[.bool p1, .slice A1 n1 c1, .bool p1', .slice A1' n1' c1'] 58)).alloc (.cells #[.bool p2, .slice A2 n2 c2, .bool p2', .slice A2' n2' c2'] 58)).alloc (.cells #[.bool false, .slice none 0 0, .bool false, .slice none 0 0] 58)).heap.size = w.heap.size + 1 + 1 + 1 := by simp
 generalize (((w.alloc (.cells #[.bool p1, .slice A1 n1 c1, .bool p1', .slice A1' n1' c1'] 58)).alloc (.cells #[.bool p2, .slice A2 n2 c2, .bool p2', .slice A2' n2' c2'] 58)).alloc (.cells #[.bool false, .slice none 0 0, .bool false, .slice none 0 0] 58)) = W0 at *
 have HSZ := Lib.hid hsz
 clear hx hy hsz
 go_upto_region 1 with fail
 go_cut [5] (fun v wx => ∃ (b n c : Nat) (p : Bool) (A : Option Addr), v = .pointer (some ⟨b, 0, none⟩) ∧ Box wx b 56 #[.bool p, .slice A n c] ∧ BigB wx (.agg #[.bool p, .slice A n c]) (X.num * Y.den + Y.num * X.den) (max (j + k) (k + j) + 1) ∧ Ext W0 wx)
 case first =>
  have k00 : ∀ w', Later W0 w' → w'.cell? ⟨_, 0, none⟩ = some _ := fun w' h => (B0.ext h).c0
  have k01 : ∀ w', Later W0 w' → w'.cell? ⟨_, 1, none⟩ = some _ := fun w' h => (B0.ext h).c1
  have k02 : ∀ w', Later W0 w' → w'.cell? ⟨_, 2, none⟩ = some _ := fun w' h => (B0.ext h).c2
  have k03 : ∀ w', Later W0 w' → w'.cell? ⟨_, 3, none⟩ = some _ := fun w' h => (B0.ext h).c3
  have k10 : ∀ w', Later W0 w' → w'.cell? ⟨_, 0, none⟩ = some _ := fun w' h => (B1.ext h).c0
  have k11 : ∀ w', Later W0 w' → w'.cell? ⟨_, 1, none⟩ = some _ := fun w' h => (B1.ext h).c1
  have k12 : ∀ w', Later W0 w' → w'.cell? ⟨_, 2, none⟩ = some _ := fun w' h => (B1.ext h).c2
  have k13 : ∀ w', Later W0 w' → w'.cell? ⟨_, 3, none⟩ = some _ := fun w' h => (B1.ext h).c3
  have hS0 := Later.refl W0
  clear B0 B1 B2
  go_region_held3 (fun w' => Later W0 w') ((repeat (first | assumption | apply Later.drew | apply Later.drewN | apply Later.alloc | (refine Later.set ?_ (by first | exact Nat.le_refl _ | exact Nat.le_succ _ | exact Later.size (by assumption) | exact Nat.le_succ_of_le (Later.size (by assumption))) _) | (refine Later.step ?_ (by assumption))))) (first
   | (go_at_call 44; (with_reducible refine (q07 _ _ _ _ (RatB.ext (by assumption) (by repeat (first | (with_reducible exact Ext.refl _) | (with_reducible apply Ext.drew) | (with_reducible apply Ext.alloc) | (with_reducible apply Ext.drewN) | (with_reducible refine Ext.trans ?_ (by assumption)))))).mono ?_); rintro e wk ⟨vk, rfl, hbk, hxk⟩; (obtain ⟨pk, Ak, nk, ck, rfl⟩ := hbk.1.shape); (have hSk := Later.step (by assumption) hxk); (try (have bq := Box.ext (by assumption) hxk)); (try (have bq := boxN hxk)); (try (have bq := boxD hxk)); (try (have bq := box0 hxk)); (try (have q0 := bq.c0; have q1 := bq.c1; have f0 := bq.frozen 0; have f1 := bq.frozen 1)))
   | (go_at_call 63; (with_reducible refine (q44 _ _ _ _ _ _ _ (BigB.ext (by assumption) (by repeat (first | (with_reducible exact Ext.refl _) | (with_reducible apply Ext.drew) | (with_reducible apply Ext.alloc) | (with_reducible apply Ext.drewN) | (with_reducible refine Ext.trans ?_ (by assumption))))) (BigB.ext (by assumption) (by repeat (first | (with_reducible exact Ext.refl _) | (with_reducible apply Ext.drew) | (with_reducible apply Ext.alloc) | (with_reducible apply Ext.drewN) | (with_reducible refine Ext.trans ?_ (by assumption))))) (by omega)).mono ?_); rintro e wk ⟨vk, rfl, hbk, hxk⟩; (obtain ⟨pk, Ak, nk, ck, rfl⟩ := hbk.1.shape); (have hSk := Later.step (by assumption) hxk); (try (have bq := Box.ext (by assumption) hxk)); (try (have bq := boxN hxk)); (try (have bq := boxD hxk)); (try (have bq := box0 hxk)); (try (have q0 := bq.c0; have q1 := bq.c1; have f0 := bq.frozen 0; have f1 := bq.frozen 1)))
   | (go_at_call 80; (with_reducible refine (qgk _ _ _ _ _ _ _ (BigB.ext (by assumption) (by repeat (first | (with_reducible exact Ext.refl _) | (with_reducible apply Ext.drew) | (with_reducible apply Ext.alloc) | (with_reducible apply Ext.drewN) | (with_reducible refine Ext.trans ?_ (by assumption))))) (BigB.ext (by assumption) (by repeat (first | (with_reducible exact Ext.refl _) | (with_reducible apply Ext.drew) | (with_reducible apply Ext.alloc) | (with_reducible apply Ext.drewN) | (with_reducible refine Ext.trans ?_ (by assumption))))) (by omega)).mono ?_); rintro e wk ⟨vk, rfl, hbk, hxk⟩; (obtain ⟨pk, Ak, nk, ck, rfl⟩ := hbk.1.shape); (have hSk := Later.step (by assumption) hxk); (try (have bq := Box.ext (by assumption) hxk)); (try (have bq := boxN hxk)); (try (have bq := boxD hxk)); (try (have bq := box0 hxk)); (try (have q0 := bq.c0; have q1 := bq.c1; have f0 := bq.frozen 0; have f1 := bq.frozen 1)))
   | (go_at_call 45; (with_reducible refine (qc9 _ _ _ _ _ _ _ (BigB.ext (by assumption) (by repeat (first | (with_reducible exact Ext.refl _) | (with_reducible apply Ext.drew) | (with_reducible apply Ext.alloc) | (with_reducible apply Ext.drewN) | (with_reducible refine Ext.trans ?_ (by assumption))))) (BigB.ext (by assumption) (by repeat (first | (with_reducible exact Ext.refl _) | (with_reducible apply Ext.drew) | (with_reducible apply Ext.alloc) | (with_reducible apply Ext.drewN) | (with_reducible refine Ext.trans ?_ (by assumption)))))).mono ?_); rintro e wk ⟨rfl, hxk⟩; (have hSk := Later.step (by assumption) hxk); (try (have bq := Box.ext (by assumption) hxk)); (try (have bq := boxN hxk)); (try (have bq := boxD hxk)); (try (have bq := box0 hxk)); (try (have q0 := bq.c0; have q1 := bq.c1; have f0 := bq.frozen 0; have f1 := bq.frozen 1)))
   | (go_at_call 89; (with_reducible refine (qyu _ _ _ _ (BigB.ext (by assumption) (by repeat (first | (with_reducible exact Ext.refl _) | (with_reducible apply Ext.drew) | (with_reducible apply Ext.alloc) | (with_reducible apply Ext.drewN) | (with_reducible refine Ext.trans ?_ (by assumption)))))).mono ?_); rintro e wk ⟨vk, rfl, hbk, hxk⟩; (obtain ⟨pk, Ak, nk, ck, rfl⟩ := hbk.1.shape); (have hSk := Later.step (by assumption) hxk); (try (have bq := Box.ext (by assumption) hxk)); (try (have bq := boxN hxk)); (try (have bq := boxD hxk)); (try (have bq := box0 hxk)); (try (have q0 := bq.c0; have q1 := bq.c1; have f0 := bq.frozen 0; have f1 := bq.frozen 1)))
   )
  all_goals (go_wp2_with fail; go_meet)
  all_goals first
   | exact ⟨_, _, _, _, _, rfl, Box.new _ _ _, hbk.ext ((Ext.refl _).alloc _), Ext.alloc (show Ext W0 _ from hSk) _⟩
   | exact ⟨_, _, _, _, _, rfl, bq.put2 _ _, ⟨(hbk.1.put bq).1, hbk.2⟩, Ext.set (Ext.set (show Ext W0 _ from hSk) (by first | exact Nat.le_refl _ | exact Later.size (by assumption)) _) (by first | exact Nat.le_refl _ | exact Later.size (by assumption)) _⟩
 case rest =>
  obtain ⟨b, n, c, p, A, rfl, BN, hN, hx1⟩ := hcut
  have hX := hX.ext hx1
  have hY := hY.ext hx1
  have B0 := B0.ext hx1
  have B1 := B1.ext hx1
  have B2 := B2.ext hx1
  have hE0 := hE0.trans hx1
  have hbs : b ≠ w.heap.size + 1 + 1 := by
   intro h
   subst h
   have h1 := BN
   unfold Box at h1 B2
   rw [B2] at h1
   simp at h1
  have ks := KE.start (R := [w.heap.size + 1 + 1]) hE0 (by simp; omega)
  have kb0 : w.heap.size ∉ [w.heap.size + 1 + 1] := by simp; omega
  have kb1 : w.heap.size + 1 ∉ [w.heap.size + 1 + 1] := by simp
  have kbn : b ∉ [w.heap.size + 1 + 1] := by simpa using hbs
  have kn0 : ∀ w', KE [w.heap.size + 1 + 1] w wc w' → w'.cell? ⟨b, 0, none⟩ = some (.bool p) := fun w' h => (h.bx BN kbn).c0
  have kn1 : ∀ w', KE [w.heap.size + 1 + 1] w wc w' → w'.cell? ⟨b, 1, none⟩ = some (.slice A n c) := fun w' h => (h.bx BN kbn).c1
  have k00 : ∀ w', KE [w.heap.size + 1 + 1] w wc w' → w'.cell? ⟨_, 0, none⟩ = some _ := fun w' h => (h.bx B0 kb0).c0
  have k01 : ∀ w', KE [w.heap.size + 1 + 1] w wc w' → w'.cell? ⟨_, 1, none⟩ = some _ := fun w' h => (h.bx B0 kb0).c1
  have k02 : ∀ w', KE [w.heap.size + 1 + 1] w wc w' → w'.cell? ⟨_, 2, none⟩ = some _ := fun w' h => (h.bx B0 kb0).c2
  have k03 : ∀ w', KE [w.heap.size + 1 + 1] w wc w' → w'.cell? ⟨_, 3, none⟩ = some _ := fun w' h => (h.bx B0 kb0).c3
  have k10 : ∀ w', KE [w.heap.size + 1 + 1] w wc w' → w'.cell? ⟨_, 0, none⟩ = some _ := fun w' h => (h.bx B1 kb1).c0
  have k11 : ∀ w', KE [w.heap.size + 1 + 1] w wc w' → w'.cell? ⟨_, 1, none⟩ = some _ := fun w' h => (h.bx B1 kb1).c1
  have k12 : ∀ w', KE [w.heap.size + 1 + 1] w wc w' → w'.cell? ⟨_, 2, none⟩ = some _ := fun w' h => (h.bx B1 kb1).c2
  have k13 : ∀ w', KE [w.heap.size + 1 + 1] w wc w' → w'.cell? ⟨_, 3, none⟩ = some _ := fun w' h => (h.bx B1 kb1).c3
  clear hx1 hXn hYn BN
  go_upto_region 2 with fail
  go_region_held3 (fun w' => KE [w.heap.size + 1 + 1] w wc w') ((repeat (first | assumption | apply KE.drew | apply KE.drewN | apply KE.alloc | (refine KE.set ?_ (by simp) _) | (refine KE.step ?_ (by assumption))))) (first
   | (go_at_call 44; (with_reducible refine (q07 _ _ _ _ (RatB.ext (by assumption) eAx)).mono ?_); rintro e wk ⟨vk, rfl, hbk, hxk⟩; (obtain ⟨pk, Ak, nk, ck, rfl⟩ := hbk.1.shape))
   | (go_at_call 63; (with_reducible refine (q44 _ _ _ _ _ _ _ (BigB.ext (by assumption) eAx) (BigB.ext (by assumption) eAx) (by omega)).mono ?_); rintro e wk ⟨vk, rfl, hbk, hxk⟩; (obtain ⟨pk, Ak, nk, ck, rfl⟩ := hbk.1.shape))
   | (go_at_call 80; (with_reducible refine (qgk _ _ _ _ _ _ _ (BigB.ext (by assumption) eAx) (BigB.ext (by assumption) eAx) (by omega)).mono ?_); rintro e wk ⟨vk, rfl, hbk, hxk⟩; (obtain ⟨pk, Ak, nk, ck, rfl⟩ := hbk.1.shape))
   | (go_at_call 45; (with_reducible refine (qc9 _ _ _ _ _ _ _ (BigB.ext (by assumption) eAx) (BigB.ext (by assumption) eAx)).mono ?_); rintro e wk ⟨rfl, hxk⟩)
   | (go_at_call 89; (with_reducible refine (qyu _ _ _ _ (BigB.ext (by assumption) eAx)).mono ?_); rintro e wk ⟨vk, rfl, hbk, hxk⟩; (obtain ⟨pk, Ak, nk, ck, rfl⟩ := hbk.1.shape))
   | (go_at_call 60; (with_reducible refine (red_b _ _ _ _ _ _ _ (BigB.ext (by assumption) eAx) (BigB.ext (by assumption) eAx) (by omega) HD0.out).mono ?_); rintro e wk ⟨vk, rfl, hbk, hxk⟩; (obtain ⟨pk, Ak, nk, ck, pk', Ak', nk', ck', rfl⟩ := hbk.1.shape); (have b2 := Box.ext B2 (show Ext wc wk by repeat (first | (with_reducible exact Ext.refl _) | (with_reducible apply Ext.drew) | (with_reducible apply Ext.drewN) | (with_reducible refine Ext.trans ?_ (by assumption))))); have q0 := b2.c0; have q1 := b2.c1; have q2 := b2.c2; have q3 := b2.c3; have f0 := b2.frozen 0; have f1 := b2.frozen 1; have f2 := b2.frozen 2; have f3 := b2.frozen 3)
   )
  all_goals (rw [← HQ.out] at hbk)
  all_goals go_wp2_with fail
  all_goals (
   obtain ⟨pp, pb⟩ := RatV.put hbk.1 b2
   have pc0 := pb.c0
   have pc1 := pb.c1
   have pc2 := pb.c2
   have pc3 := pb.c3
   refine bodyPost_ret (v := .agg #[.bool pk, .slice Ak nk ck, .bool pk', .slice Ak' nk' ck']) (by simp [results, Tryz.results47, go_sem, pc0, pc1, pc2, pc3]) rfl ?_
   exact ⟨_, rfl, ⟨pp, hQ⟩, KE.ext (R := [w.heap.size + 1 + 1]) (W0 := wc) (by assumption)⟩)
set_option maxHeartbeats 4000000 in
theorem RatSub_b (x y : Value) (X Y : Rat) (j k : Nat) (w : World) (hx : RatB w x X j) (hy : RatB w y Y k) (hL : max j k ≤ 274877906944) : Calls Tryz.prog 184 #[x, y] w (q3z w (X - Y) (j + k + 1)) := by
 rw [Rat.sub_eq_add_neg]
 obtain ⟨p1, A1, n1, c1, p1', A1', n1', c1', rfl⟩ := hx.1.shape
 obtain ⟨p2, A2, n2, c2, p2', A2', n2', c2', rfl⟩ := hy.1.shape
 go_enter Tryz.func184, Tryz.ntmps184
 go_wp2_with fail
 obtain ⟨B0, B1, B2, hE0⟩ := boxesT3 w 58 58 58 #[.bool p1, .slice A1 n1 c1, .bool p1', .slice A1' n1' c1'] #[.bool p2, .slice A2 n2 c2, .bool p2', .slice A2' n2' c2'] #[.bool false, .slice none 0 0, .bool false, .slice none 0 0]
 have hX := hx.ext hE0
 have hY := hy.ext hE0
 generalize (((w.alloc (.cells #[.bool p1, .slice A1 n1 c1, .bool p1', .slice A1' n1' c1'] 58)).alloc (.cells #[.bool p2, .slice A2 n2 c2, .bool p2', .slice A2' n2' c2'] 58)).alloc (.cells #[.bool false, .slice none 0 0, .bool false, .slice none 0 0] 58)) = W0 at *
 clear hx hy
 have ks := KE.start (R := [w.heap.size + 1 + 1]) hE0 (by simp; omega)
 have kb0 : w.heap.size ∉ [w.heap.size + 1 + 1] := by simp; omega
 have kb1 : w.heap.size + 1 ∉ [w.heap.size + 1 + 1] := by simp
 have k00 : ∀ w', KE [w.heap.size + 1 + 1] w W0 w' → w'.cell? ⟨_, 0, none⟩ = some _ := fun w' h => (h.bx B0 kb0).c0
 have k01 : ∀ w', KE [w.heap.size + 1 + 1] w W0 w' → w'.cell? ⟨_, 1, none⟩ = some _ := fun w' h => (h.bx B0 kb0).c1
 have k02 : ∀ w', KE [w.heap.size + 1 + 1] w W0 w' → w'.cell? ⟨_, 2, none⟩ = some _ := fun w' h => (h.bx B0 kb0).c2
 have k03 : ∀ w', KE [w.heap.size + 1 + 1] w W0 w' → w'.cell? ⟨_, 3, none⟩ = some _ := fun w' h => (h.bx B0 kb0).c3
 have k10 : ∀ w', KE [w.heap.size + 1 + 1] w W0 w' → w'.cell? ⟨_, 0, none⟩ = some _ := fun w' h => (h.bx B1 kb1).c0
 have k11 : ∀ w', KE [w.heap.size + 1 + 1] w W0 w' → w'.cell? ⟨_, 1, none⟩ = some _ := fun w' h => (h.bx B1 kb1).c1
 have k12 : ∀ w', KE [w.heap.size + 1 + 1] w W0 w' → w'.cell? ⟨_, 2, none⟩ = some _ := fun w' h => (h.bx B1 kb1).c2
 have k13 : ∀ w', KE [w.heap.size + 1 + 1] w W0 w' → w'.cell? ⟨_, 3, none⟩ = some _ := fun w' h => (h.bx B1 kb1).c3
 go_upto_region 1 with fail
 go_region_held3 (fun w' => KE [w.heap.size + 1 + 1] w W0 w') ((repeat (first | assumption | apply KE.drew | apply KE.drewN | apply KE.alloc | (refine KE.set ?_ (by simp) _) | (refine KE.step ?_ (by assumption))))) (first
  | (go_at_call 168; (with_reducible refine (qsz _ _ _ _ (hY.ext (Ext.refl _).drew)).mono ?_); rintro e w1 ⟨v1, rfl, hb1, hxA⟩; (obtain ⟨pk, Ak, nk, ck, pk', Ak', nk', ck', rfl⟩ := hb1.1.shape))
  | (go_at_call 47; (with_reducible refine (qcs _ _ _ _ _ _ _ ((hX.ext (Ext.refl _).drew).ext hxA) hb1 hL).mono ?_); rintro e w2 ⟨v2, rfl, hb2, hxB⟩; (obtain ⟨p, A, n, c, p', A', n', c', rfl⟩ := hb2.1.shape); (have b2 := (B2.drew.ext hxA).ext hxB); have q0 := b2.c0; have q1 := b2.c1; have q2 := b2.c2; have q3 := b2.c3; have f0 := b2.frozen 0; have f1 := b2.frozen 1; have f2 := b2.frozen 2; have f3 := b2.frozen 3)
  )
 all_goals go_wp2_with fail
 all_goals (
  obtain ⟨pp, pb⟩ := RatV.put hb2.1 b2
  have pc0 := pb.c0
  have pc1 := pb.c1
  have pc2 := pb.c2
  have pc3 := pb.c3
  refine bodyPost_ret (v := .agg #[.bool p, .slice A n c, .bool p', .slice A' n' c']) (by simp [results, Tryz.results184, go_sem, pc0, pc1, pc2, pc3]) rfl ?_
  exact ⟨_, rfl, ⟨pp, hb2.2⟩, KE.ext (R := [w.heap.size + 1 + 1]) (W0 := W0) (by assumption)⟩)
end Go.Proofs.YtljncdcjkdgkeaaGreatDoor.Rt
