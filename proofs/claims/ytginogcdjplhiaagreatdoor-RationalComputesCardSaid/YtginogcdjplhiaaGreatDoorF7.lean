/- The reference of the rational numbers: Add, Mul, Div, Neg, Cmp walked. The reference of the rational numbers: Neg, Cmp, Floor walked. The reference of the rational numbers: Floor walked. -/
import Derived.Test.YtginogcdjplhiaaGreatDoorF4
import Derived.Test.YtginogcdjplhiaaGreatDoorR8M
import Derived.Test.YtginogcdjplhiaaGreatDoorT3
import Derived.Test.YtginogcdjplhiaaGreatDoorT5C
set_option linter.unusedVariables false
set_option linter.unusedSimpArgs false
namespace Go.Proofs.YtginogcdjplhiaaGreatDoor.Ten
open Go.RowKit Go.Proofs.YtginogcdjplhiaaGreatDoor.Big Go.Proofs.YtginogcdjplhiaaGreatDoor.Rt
open Go.Lib (itoa)

def FracB (w : World) (v : Value) (q : Rat) (L : Nat) : Prop := FracV w v q ∧ BT L q.num ∧ BT L (q.den : Int)
theorem FracB.ext {w w' : World} {v : Value} {q : Rat} {L : Nat} (h : FracB w v q L) (k : Ext w w') : FracB w' v q L := ⟨h.1.ext k, h.2⟩
theorem FracB.shape {w : World} {v : Value} {q : Rat} {L : Nat} (h : FracB w v q L) : ∃ s A n c s' A' n' c', v = .agg #[.int .i64 s, .slice A n c, .int .i64 s', .slice A' n' c'] := by
  obtain ⟨⟨s, A, n, c, s', A', n', c', rfl, _⟩, _⟩ := h
  exact ⟨s, A, n, c, s', A', n', c', rfl⟩
theorem FracB.parts {w : World} {s s' : Int} {A A' : Option Addr} {n c n' c' : Nat} {q : Rat} {L : Nat} (h : FracB w (.agg #[.int .i64 s, .slice A n c, .int .i64 s', .slice A' n' c']) q L) :
    NumB w (.agg #[.int .i64 s, .slice A n c]) q.num L ∧ NumB w (.agg #[.int .i64 s', .slice A' n' c']) (q.den : Int) L := by
  obtain ⟨⟨_, _, _, _, _, _, _, _, e, h1, h2⟩, b1, b2⟩ := h
  simp only [Value.agg.injEq, Array.mk.injEq, List.cons.injEq, Value.int.injEq, Value.slice.injEq, and_true, true_and] at e
  obtain ⟨rfl, ⟨rfl, rfl, rfl⟩, rfl, rfl, rfl, rfl⟩ := e
  exact ⟨⟨h1, b1⟩, ⟨h2, b2⟩⟩
def FBPost (w : World) (q : Rat) (L : Nat) (e : Ending) (w' : World) : Prop := ∃ v, e = .returned v ∧ FracB w' v q L ∧ Ext w w'
theorem FMake_b (x y : Value) (n d : Int) (j k : Nat) (w : World) (hx : NumB w x n j) (hy : NumB w y d k) (hL : max j k ≤ 100000000000) (hd : d ≠ 0) : Calls Tryz.prog 31 #[x, y] w (FBPost w (Rat.divInt n d) (max j k)) := by
  have b1 : BT (max j k) n := BT_mono (Nat.le_max_left _ _) hx.2
  have b2 : BT (max j k) d := BT_mono (Nat.le_max_right _ _) hy.2
  refine (FMake_any x y n d (max j k) w hx.1 hy.1 b1 b2 hL hd).mono ?_
  rintro e w' ⟨v, rfl, h1, h2⟩
  exact ⟨v, rfl, ⟨h1, BT_redP b1 b2 hd⟩, h2⟩

theorem den_mul_ne' (X Y : Rat) : (X.den : Int) * Y.den ≠ 0 := by have := X.den_pos; have := Y.den_pos; exact Int.mul_ne_zero (by omega) (by omega)

set_option maxHeartbeats 8000000 in
theorem FAdd_b (x y : Value) (X Y : Rat) (j k : Nat) (w : World) (hx : FracB w x X j) (hy : FracB w y Y k) (hL : max j k ≤ 10000000000) : Calls Tryz.prog 14 #[x, y] w (FBPost w (X + Y) (j + k + 1)) := by
  obtain ⟨q, hq⟩ : ∃ q, q = X + Y := ⟨_, rfl⟩
  rw [← hq]
  have HQ := Lib.hid (hq.trans (add_eq X Y))
  have HD0 := Lib.hid (den_mul_ne' X Y)
  clear hq
  obtain ⟨s1, A1, n1, c1, s1', A1', n1', c1', rfl⟩ := hx.shape
  obtain ⟨s2, A2, n2, c2, s2', A2', n2', c2', rfl⟩ := hy.shape
  obtain ⟨B0, B1, B2, hE0⟩ := boxesT3 w 35 35 35 #[.int .i64 s1, .slice A1 n1 c1, .int .i64 s1', .slice A1' n1' c1'] #[.int .i64 s2, .slice A2 n2 c2, .int .i64 s2', .slice A2' n2' c2'] #[.int .i64 0, .slice none 0 0, .int .i64 0, .slice none 0 0]
  obtain ⟨hXn, hXd⟩ := (hx.ext hE0).parts
  obtain ⟨hYn, hYd⟩ := (hy.ext hE0).parts
  go_enter Tryz.func14, Tryz.ntmps14
  go_wp2_with fail
  generalize (((w.alloc (.cells #[.int .i64 s1, .slice A1 n1 c1, .int .i64 s1', .slice A1' n1' c1'] 35)).alloc (.cells #[.int .i64 s2, .slice A2 n2 c2, .int .i64 s2', .slice A2' n2' c2'] 35)).alloc (.cells #[.int .i64 0, .slice none 0 0, .int .i64 0, .slice none 0 0] 35)) = W0 at *
  have ks := KE.start (R := [w.heap.size + 1 + 1]) hE0 (by simp; omega)
  have kb0 : w.heap.size ∉ [w.heap.size + 1 + 1] := by simp; omega
  have kb1 : w.heap.size + 1 ∉ [w.heap.size + 1 + 1] := by simp
  have k00 : ∀ w', KE [w.heap.size + 1 + 1] w W0 w' → w'.cell? ⟨_, 0, none⟩ = some _ := fun w' h => (h.bx B0 kb0).c0
  have k01 : ∀ w', KE [w.heap.size + 1 + 1] w W0 w' → w'.cell? ⟨_, 1, none⟩ = some _ := fun w' h => (h.bx B0 kb0).c1
  have k02 : ∀ w', KE [w.heap.size + 1 + 1] w W0 w' → w'.cell? ⟨_, 2, none⟩ = some _ := fun w' h => (h.bx B0 kb0).c2
  have k03 : ∀ w', KE [w.heap.size + 1 + 1] w W0 w' → w'.cell? ⟨_, 3, none⟩ = some _ := fun w' h => (h.bx B0 kb0).c3
  have k10 : ∀ w', KE [w.heap.size + 1 + 1] w W0 w' → w'.cell? ⟨_, 0, none⟩ = some _ := fun w' h => (h.bx B1 kb1).c0
  have k11 : ∀ w', KE [w.heap.size + 1 + 1] w W0 w' → w'.cell? ⟨_, 1, none⟩ = some _ := fun w' h => (h.bx B1 kb1).c1
  have k12 : ∀ w', KE [w.heap.size + 1 + 1] w W0 w' → w'.cell? ⟨_, 2, none⟩ = some _ := fun w' h => (h.bx B1 kb1).c2
  have k13 : ∀ w', KE [w.heap.size + 1 + 1] w W0 w' → w'.cell? ⟨_, 3, none⟩ = some _ := fun w' h => (h.bx B1 kb1).c3
  clear hx hy
  go_region_held3 (fun w' => KE [w.heap.size + 1 + 1] w W0 w') ((repeat (first | assumption | apply KE.drew | apply KE.drewN | apply KE.alloc | (refine KE.set ?_ (by simp) _) | (refine KE.step ?_ (by assumption))))) (first
      | (go_at_call 39; (with_reducible refine (RMul_b _ _ _ _ _ _ _ (NumB.ext (by assumption) (by repeat (first | (with_reducible exact Ext.refl _) | (with_reducible apply Ext.drew) | (with_reducible apply Ext.drewN) | (with_reducible refine Ext.trans ?_ (by assumption))))) (NumB.ext (by assumption) (by repeat (first | (with_reducible exact Ext.refl _) | (with_reducible apply Ext.drew) | (with_reducible apply Ext.drewN) | (with_reducible refine Ext.trans ?_ (by assumption))))) (by omega)).mono ?_); rintro e wk ⟨vk, rfl, hbk, hxk⟩; (obtain ⟨sk, Ak, nk, ck, rfl⟩ := hbk.shape))
      | (go_at_call 41; (with_reducible refine (RAdd_b _ _ _ _ _ _ _ (NumB.ext (by assumption) (by repeat (first | (with_reducible exact Ext.refl _) | (with_reducible apply Ext.drew) | (with_reducible apply Ext.drewN) | (with_reducible refine Ext.trans ?_ (by assumption))))) (NumB.ext (by assumption) (by repeat (first | (with_reducible exact Ext.refl _) | (with_reducible apply Ext.drew) | (with_reducible apply Ext.drewN) | (with_reducible refine Ext.trans ?_ (by assumption))))) (by omega)).mono ?_); rintro e wk ⟨vk, rfl, hbk, hxk⟩; (obtain ⟨sk, Ak, nk, ck, rfl⟩ := hbk.shape))
      | (go_at_call 42; (with_reducible refine (RNeg_b _ _ _ _ (NumB.ext (by assumption) (by repeat (first | (with_reducible exact Ext.refl _) | (with_reducible apply Ext.drew) | (with_reducible apply Ext.drewN) | (with_reducible refine Ext.trans ?_ (by assumption)))))).mono ?_); rintro e wk ⟨vk, rfl, hbk, hxk⟩; (obtain ⟨sk, Ak, nk, ck, rfl⟩ := hbk.shape))
      | (go_at_call 38; (with_reducible refine (RCmp_b _ _ _ _ _ _ _ (NumB.ext (by assumption) (by repeat (first | (with_reducible exact Ext.refl _) | (with_reducible apply Ext.drew) | (with_reducible apply Ext.drewN) | (with_reducible refine Ext.trans ?_ (by assumption))))) (NumB.ext (by assumption) (by repeat (first | (with_reducible exact Ext.refl _) | (with_reducible apply Ext.drew) | (with_reducible apply Ext.drewN) | (with_reducible refine Ext.trans ?_ (by assumption))))) (by omega)).mono ?_); rintro e wk ⟨rfl, hxk⟩)
      | (go_at_call 31; (with_reducible refine (FMake_b _ _ _ _ _ _ _ (NumB.ext (by assumption) (by repeat (first | (with_reducible exact Ext.refl _) | (with_reducible apply Ext.drew) | (with_reducible apply Ext.drewN) | (with_reducible refine Ext.trans ?_ (by assumption))))) (NumB.ext (by assumption) (by repeat (first | (with_reducible exact Ext.refl _) | (with_reducible apply Ext.drew) | (with_reducible apply Ext.drewN) | (with_reducible refine Ext.trans ?_ (by assumption))))) (by omega) HD0.out).mono ?_); rintro e wk ⟨vk, rfl, hbk, hxk⟩; (obtain ⟨sk, Ak, nk, ck, sk', Ak', nk', ck', rfl⟩ := hbk.shape); (have b2 := Box.ext B2 (show Ext W0 wk by repeat (first | (with_reducible exact Ext.refl _) | (with_reducible apply Ext.drew) | (with_reducible apply Ext.drewN) | (with_reducible refine Ext.trans ?_ (by assumption))))); have q0 := b2.c0; have q1 := b2.c1; have q2 := b2.c2; have q3 := b2.c3; have f0 := b2.frozen 0; have f1 := b2.frozen 1; have f2 := b2.frozen 2; have f3 := b2.frozen 3)
    )
  all_goals (rw [← HQ.out] at hbk)
  all_goals go_wp2_with fail
  all_goals (
    obtain ⟨hk1, hk2⟩ := hbk.parts
    obtain ⟨pp, pb⟩ := FracV.put hk1.1 hk2.1 b2
    have pc0 := pb.c0
    have pc1 := pb.c1
    have pc2 := pb.c2
    have pc3 := pb.c3
    refine bodyPost_ret (v := .agg #[.int .i64 sk, .slice Ak nk ck, .int .i64 sk', .slice Ak' nk' ck']) (by simp [results, Tryz.results14, go_sem, pc0, pc1, pc2, pc3]) rfl ?_
    exact ⟨_, rfl, ⟨pp, BT_mono (by omega) hk1.2, BT_mono (by omega) hk2.2⟩, KE.ext (R := [w.heap.size + 1 + 1]) (W0 := W0) (by assumption)⟩)

set_option maxHeartbeats 8000000 in
theorem FMul_b (x y : Value) (X Y : Rat) (j k : Nat) (w : World) (hx : FracB w x X j) (hy : FracB w y Y k) (hL : max j k ≤ 10000000000) : Calls Tryz.prog 18 #[x, y] w (FBPost w (X * Y) (j + k)) := by
  obtain ⟨q, hq⟩ : ∃ q, q = X * Y := ⟨_, rfl⟩
  rw [← hq]
  have HQ := Lib.hid (hq.trans (mul_eq X Y))
  have HD0 := Lib.hid (den_mul_ne' X Y)
  clear hq
  obtain ⟨s1, A1, n1, c1, s1', A1', n1', c1', rfl⟩ := hx.shape
  obtain ⟨s2, A2, n2, c2, s2', A2', n2', c2', rfl⟩ := hy.shape
  obtain ⟨B0, B1, B2, hE0⟩ := boxesT3 w 35 35 35 #[.int .i64 s1, .slice A1 n1 c1, .int .i64 s1', .slice A1' n1' c1'] #[.int .i64 s2, .slice A2 n2 c2, .int .i64 s2', .slice A2' n2' c2'] #[.int .i64 0, .slice none 0 0, .int .i64 0, .slice none 0 0]
  obtain ⟨hXn, hXd⟩ := (hx.ext hE0).parts
  obtain ⟨hYn, hYd⟩ := (hy.ext hE0).parts
  go_enter Tryz.func18, Tryz.ntmps18
  go_wp2_with fail
  generalize (((w.alloc (.cells #[.int .i64 s1, .slice A1 n1 c1, .int .i64 s1', .slice A1' n1' c1'] 35)).alloc (.cells #[.int .i64 s2, .slice A2 n2 c2, .int .i64 s2', .slice A2' n2' c2'] 35)).alloc (.cells #[.int .i64 0, .slice none 0 0, .int .i64 0, .slice none 0 0] 35)) = W0 at *
  have ks := KE.start (R := [w.heap.size + 1 + 1]) hE0 (by simp; omega)
  have kb0 : w.heap.size ∉ [w.heap.size + 1 + 1] := by simp; omega
  have kb1 : w.heap.size + 1 ∉ [w.heap.size + 1 + 1] := by simp
  have k00 : ∀ w', KE [w.heap.size + 1 + 1] w W0 w' → w'.cell? ⟨_, 0, none⟩ = some _ := fun w' h => (h.bx B0 kb0).c0
  have k01 : ∀ w', KE [w.heap.size + 1 + 1] w W0 w' → w'.cell? ⟨_, 1, none⟩ = some _ := fun w' h => (h.bx B0 kb0).c1
  have k02 : ∀ w', KE [w.heap.size + 1 + 1] w W0 w' → w'.cell? ⟨_, 2, none⟩ = some _ := fun w' h => (h.bx B0 kb0).c2
  have k03 : ∀ w', KE [w.heap.size + 1 + 1] w W0 w' → w'.cell? ⟨_, 3, none⟩ = some _ := fun w' h => (h.bx B0 kb0).c3
  have k10 : ∀ w', KE [w.heap.size + 1 + 1] w W0 w' → w'.cell? ⟨_, 0, none⟩ = some _ := fun w' h => (h.bx B1 kb1).c0
  have k11 : ∀ w', KE [w.heap.size + 1 + 1] w W0 w' → w'.cell? ⟨_, 1, none⟩ = some _ := fun w' h => (h.bx B1 kb1).c1
  have k12 : ∀ w', KE [w.heap.size + 1 + 1] w W0 w' → w'.cell? ⟨_, 2, none⟩ = some _ := fun w' h => (h.bx B1 kb1).c2
  have k13 : ∀ w', KE [w.heap.size + 1 + 1] w W0 w' → w'.cell? ⟨_, 3, none⟩ = some _ := fun w' h => (h.bx B1 kb1).c3
  clear hx hy
  go_region_held3 (fun w' => KE [w.heap.size + 1 + 1] w W0 w') ((repeat (first | assumption | apply KE.drew | apply KE.drewN | apply KE.alloc | (refine KE.set ?_ (by simp) _) | (refine KE.step ?_ (by assumption))))) (first
      | (go_at_call 39; (with_reducible refine (RMul_b _ _ _ _ _ _ _ (NumB.ext (by assumption) (by repeat (first | (with_reducible exact Ext.refl _) | (with_reducible apply Ext.drew) | (with_reducible apply Ext.drewN) | (with_reducible refine Ext.trans ?_ (by assumption))))) (NumB.ext (by assumption) (by repeat (first | (with_reducible exact Ext.refl _) | (with_reducible apply Ext.drew) | (with_reducible apply Ext.drewN) | (with_reducible refine Ext.trans ?_ (by assumption))))) (by omega)).mono ?_); rintro e wk ⟨vk, rfl, hbk, hxk⟩; (obtain ⟨sk, Ak, nk, ck, rfl⟩ := hbk.shape))
      | (go_at_call 41; (with_reducible refine (RAdd_b _ _ _ _ _ _ _ (NumB.ext (by assumption) (by repeat (first | (with_reducible exact Ext.refl _) | (with_reducible apply Ext.drew) | (with_reducible apply Ext.drewN) | (with_reducible refine Ext.trans ?_ (by assumption))))) (NumB.ext (by assumption) (by repeat (first | (with_reducible exact Ext.refl _) | (with_reducible apply Ext.drew) | (with_reducible apply Ext.drewN) | (with_reducible refine Ext.trans ?_ (by assumption))))) (by omega)).mono ?_); rintro e wk ⟨vk, rfl, hbk, hxk⟩; (obtain ⟨sk, Ak, nk, ck, rfl⟩ := hbk.shape))
      | (go_at_call 42; (with_reducible refine (RNeg_b _ _ _ _ (NumB.ext (by assumption) (by repeat (first | (with_reducible exact Ext.refl _) | (with_reducible apply Ext.drew) | (with_reducible apply Ext.drewN) | (with_reducible refine Ext.trans ?_ (by assumption)))))).mono ?_); rintro e wk ⟨vk, rfl, hbk, hxk⟩; (obtain ⟨sk, Ak, nk, ck, rfl⟩ := hbk.shape))
      | (go_at_call 38; (with_reducible refine (RCmp_b _ _ _ _ _ _ _ (NumB.ext (by assumption) (by repeat (first | (with_reducible exact Ext.refl _) | (with_reducible apply Ext.drew) | (with_reducible apply Ext.drewN) | (with_reducible refine Ext.trans ?_ (by assumption))))) (NumB.ext (by assumption) (by repeat (first | (with_reducible exact Ext.refl _) | (with_reducible apply Ext.drew) | (with_reducible apply Ext.drewN) | (with_reducible refine Ext.trans ?_ (by assumption))))) (by omega)).mono ?_); rintro e wk ⟨rfl, hxk⟩)
      | (go_at_call 31; (with_reducible refine (FMake_b _ _ _ _ _ _ _ (NumB.ext (by assumption) (by repeat (first | (with_reducible exact Ext.refl _) | (with_reducible apply Ext.drew) | (with_reducible apply Ext.drewN) | (with_reducible refine Ext.trans ?_ (by assumption))))) (NumB.ext (by assumption) (by repeat (first | (with_reducible exact Ext.refl _) | (with_reducible apply Ext.drew) | (with_reducible apply Ext.drewN) | (with_reducible refine Ext.trans ?_ (by assumption))))) (by omega) HD0.out).mono ?_); rintro e wk ⟨vk, rfl, hbk, hxk⟩; (obtain ⟨sk, Ak, nk, ck, sk', Ak', nk', ck', rfl⟩ := hbk.shape); (have b2 := Box.ext B2 (show Ext W0 wk by repeat (first | (with_reducible exact Ext.refl _) | (with_reducible apply Ext.drew) | (with_reducible apply Ext.drewN) | (with_reducible refine Ext.trans ?_ (by assumption))))); have q0 := b2.c0; have q1 := b2.c1; have q2 := b2.c2; have q3 := b2.c3; have f0 := b2.frozen 0; have f1 := b2.frozen 1; have f2 := b2.frozen 2; have f3 := b2.frozen 3)
    )
  all_goals (rw [← HQ.out] at hbk)
  all_goals go_wp2_with fail
  all_goals (
    obtain ⟨hk1, hk2⟩ := hbk.parts
    obtain ⟨pp, pb⟩ := FracV.put hk1.1 hk2.1 b2
    have pc0 := pb.c0
    have pc1 := pb.c1
    have pc2 := pb.c2
    have pc3 := pb.c3
    refine bodyPost_ret (v := .agg #[.int .i64 sk, .slice Ak nk ck, .int .i64 sk', .slice Ak' nk' ck']) (by simp [results, Tryz.results18, go_sem, pc0, pc1, pc2, pc3]) rfl ?_
    exact ⟨_, rfl, ⟨pp, BT_mono (by omega) hk1.2, BT_mono (by omega) hk2.2⟩, KE.ext (R := [w.heap.size + 1 + 1]) (W0 := W0) (by assumption)⟩)

set_option maxHeartbeats 8000000 in
theorem FDiv_b (x y : Value) (X Y : Rat) (j k : Nat) (w : World) (hx : FracB w x X j) (hy : FracB w y Y k) (hL : max j k ≤ 10000000000) (hY0 : Y.num ≠ 0) : Calls Tryz.prog 12 #[x, y] w (FBPost w (X / Y) (j + k)) := by
  obtain ⟨q, hq⟩ : ∃ q, q = X / Y := ⟨_, rfl⟩
  rw [← hq]
  have HQ := Lib.hid (hq.trans (div_eq X Y))
  have HD0 := Lib.hid (show (X.den : Int) * Y.num ≠ 0 by have := X.den_pos; exact Int.mul_ne_zero (by omega) hY0)
  clear hq hY0
  obtain ⟨s1, A1, n1, c1, s1', A1', n1', c1', rfl⟩ := hx.shape
  obtain ⟨s2, A2, n2, c2, s2', A2', n2', c2', rfl⟩ := hy.shape
  obtain ⟨B0, B1, B2, hE0⟩ := boxesT3 w 35 35 35 #[.int .i64 s1, .slice A1 n1 c1, .int .i64 s1', .slice A1' n1' c1'] #[.int .i64 s2, .slice A2 n2 c2, .int .i64 s2', .slice A2' n2' c2'] #[.int .i64 0, .slice none 0 0, .int .i64 0, .slice none 0 0]
  obtain ⟨hXn, hXd⟩ := (hx.ext hE0).parts
  obtain ⟨hYn, hYd⟩ := (hy.ext hE0).parts
  go_enter Tryz.func12, Tryz.ntmps12
  go_wp2_with fail
  generalize (((w.alloc (.cells #[.int .i64 s1, .slice A1 n1 c1, .int .i64 s1', .slice A1' n1' c1'] 35)).alloc (.cells #[.int .i64 s2, .slice A2 n2 c2, .int .i64 s2', .slice A2' n2' c2'] 35)).alloc (.cells #[.int .i64 0, .slice none 0 0, .int .i64 0, .slice none 0 0] 35)) = W0 at *
  have ks := KE.start (R := [w.heap.size + 1 + 1]) hE0 (by simp; omega)
  have kb0 : w.heap.size ∉ [w.heap.size + 1 + 1] := by simp; omega
  have kb1 : w.heap.size + 1 ∉ [w.heap.size + 1 + 1] := by simp
  have k00 : ∀ w', KE [w.heap.size + 1 + 1] w W0 w' → w'.cell? ⟨_, 0, none⟩ = some _ := fun w' h => (h.bx B0 kb0).c0
  have k01 : ∀ w', KE [w.heap.size + 1 + 1] w W0 w' → w'.cell? ⟨_, 1, none⟩ = some _ := fun w' h => (h.bx B0 kb0).c1
  have k02 : ∀ w', KE [w.heap.size + 1 + 1] w W0 w' → w'.cell? ⟨_, 2, none⟩ = some _ := fun w' h => (h.bx B0 kb0).c2
  have k03 : ∀ w', KE [w.heap.size + 1 + 1] w W0 w' → w'.cell? ⟨_, 3, none⟩ = some _ := fun w' h => (h.bx B0 kb0).c3
  have k10 : ∀ w', KE [w.heap.size + 1 + 1] w W0 w' → w'.cell? ⟨_, 0, none⟩ = some _ := fun w' h => (h.bx B1 kb1).c0
  have k11 : ∀ w', KE [w.heap.size + 1 + 1] w W0 w' → w'.cell? ⟨_, 1, none⟩ = some _ := fun w' h => (h.bx B1 kb1).c1
  have k12 : ∀ w', KE [w.heap.size + 1 + 1] w W0 w' → w'.cell? ⟨_, 2, none⟩ = some _ := fun w' h => (h.bx B1 kb1).c2
  have k13 : ∀ w', KE [w.heap.size + 1 + 1] w W0 w' → w'.cell? ⟨_, 3, none⟩ = some _ := fun w' h => (h.bx B1 kb1).c3
  clear hx hy
  go_region_held3 (fun w' => KE [w.heap.size + 1 + 1] w W0 w') ((repeat (first | assumption | apply KE.drew | apply KE.drewN | apply KE.alloc | (refine KE.set ?_ (by simp) _) | (refine KE.step ?_ (by assumption))))) (first
      | (go_at_call 39; (with_reducible refine (RMul_b _ _ _ _ _ _ _ (NumB.ext (by assumption) (by repeat (first | (with_reducible exact Ext.refl _) | (with_reducible apply Ext.drew) | (with_reducible apply Ext.drewN) | (with_reducible refine Ext.trans ?_ (by assumption))))) (NumB.ext (by assumption) (by repeat (first | (with_reducible exact Ext.refl _) | (with_reducible apply Ext.drew) | (with_reducible apply Ext.drewN) | (with_reducible refine Ext.trans ?_ (by assumption))))) (by omega)).mono ?_); rintro e wk ⟨vk, rfl, hbk, hxk⟩; (obtain ⟨sk, Ak, nk, ck, rfl⟩ := hbk.shape))
      | (go_at_call 41; (with_reducible refine (RAdd_b _ _ _ _ _ _ _ (NumB.ext (by assumption) (by repeat (first | (with_reducible exact Ext.refl _) | (with_reducible apply Ext.drew) | (with_reducible apply Ext.drewN) | (with_reducible refine Ext.trans ?_ (by assumption))))) (NumB.ext (by assumption) (by repeat (first | (with_reducible exact Ext.refl _) | (with_reducible apply Ext.drew) | (with_reducible apply Ext.drewN) | (with_reducible refine Ext.trans ?_ (by assumption))))) (by omega)).mono ?_); rintro e wk ⟨vk, rfl, hbk, hxk⟩; (obtain ⟨sk, Ak, nk, ck, rfl⟩ := hbk.shape))
      | (go_at_call 42; (with_reducible refine (RNeg_b _ _ _ _ (NumB.ext (by assumption) (by repeat (first | (with_reducible exact Ext.refl _) | (with_reducible apply Ext.drew) | (with_reducible apply Ext.drewN) | (with_reducible refine Ext.trans ?_ (by assumption)))))).mono ?_); rintro e wk ⟨vk, rfl, hbk, hxk⟩; (obtain ⟨sk, Ak, nk, ck, rfl⟩ := hbk.shape))
      | (go_at_call 38; (with_reducible refine (RCmp_b _ _ _ _ _ _ _ (NumB.ext (by assumption) (by repeat (first | (with_reducible exact Ext.refl _) | (with_reducible apply Ext.drew) | (with_reducible apply Ext.drewN) | (with_reducible refine Ext.trans ?_ (by assumption))))) (NumB.ext (by assumption) (by repeat (first | (with_reducible exact Ext.refl _) | (with_reducible apply Ext.drew) | (with_reducible apply Ext.drewN) | (with_reducible refine Ext.trans ?_ (by assumption))))) (by omega)).mono ?_); rintro e wk ⟨rfl, hxk⟩)
      | (go_at_call 31; (with_reducible refine (FMake_b _ _ _ _ _ _ _ (NumB.ext (by assumption) (by repeat (first | (with_reducible exact Ext.refl _) | (with_reducible apply Ext.drew) | (with_reducible apply Ext.drewN) | (with_reducible refine Ext.trans ?_ (by assumption))))) (NumB.ext (by assumption) (by repeat (first | (with_reducible exact Ext.refl _) | (with_reducible apply Ext.drew) | (with_reducible apply Ext.drewN) | (with_reducible refine Ext.trans ?_ (by assumption))))) (by omega) HD0.out).mono ?_); rintro e wk ⟨vk, rfl, hbk, hxk⟩; (obtain ⟨sk, Ak, nk, ck, sk', Ak', nk', ck', rfl⟩ := hbk.shape); (have b2 := Box.ext B2 (show Ext W0 wk by repeat (first | (with_reducible exact Ext.refl _) | (with_reducible apply Ext.drew) | (with_reducible apply Ext.drewN) | (with_reducible refine Ext.trans ?_ (by assumption))))); have q0 := b2.c0; have q1 := b2.c1; have q2 := b2.c2; have q3 := b2.c3; have f0 := b2.frozen 0; have f1 := b2.frozen 1; have f2 := b2.frozen 2; have f3 := b2.frozen 3)
    )
  all_goals (rw [← HQ.out] at hbk)
  all_goals go_wp2_with fail
  all_goals (
    obtain ⟨hk1, hk2⟩ := hbk.parts
    obtain ⟨pp, pb⟩ := FracV.put hk1.1 hk2.1 b2
    have pc0 := pb.c0
    have pc1 := pb.c1
    have pc2 := pb.c2
    have pc3 := pb.c3
    refine bodyPost_ret (v := .agg #[.int .i64 sk, .slice Ak nk ck, .int .i64 sk', .slice Ak' nk' ck']) (by simp [results, Tryz.results12, go_sem, pc0, pc1, pc2, pc3]) rfl ?_
    exact ⟨_, rfl, ⟨pp, BT_mono (by omega) hk1.2, BT_mono (by omega) hk2.2⟩, KE.ext (R := [w.heap.size + 1 + 1]) (W0 := W0) (by assumption)⟩)
end Go.Proofs.YtginogcdjplhiaaGreatDoor.Ten

namespace Go.Proofs.YtginogcdjplhiaaGreatDoor.Ten
open Go.RowKit Go.Proofs.YtginogcdjplhiaaGreatDoor.Big Go.Proofs.YtginogcdjplhiaaGreatDoor.Rt
open Go.Lib (itoa)

set_option maxHeartbeats 8000000 in
theorem FNeg_b (x : Value) (X : Rat) (j : Nat) (w : World) (hx : FracB w x X j) (hL : j ≤ 10000000000) : Calls Tryz.prog 16 #[x] w (FBPost w (-X) j) := by
  obtain ⟨s1, A1, n1, c1, s1', A1', n1', c1', rfl⟩ := hx.shape
  obtain ⟨q, hq⟩ : ∃ q, q = -X := ⟨_, rfl⟩
  rw [← hq]
  have hqd : q = Rat.divInt (-X.num) (X.den : Int) := by
    rw [hq]
    have := Rat.num_divInt_den (-X)
    rw [Rat.neg_num, Rat.neg_den] at this
    exact this.symm
  have HQ := Lib.hid hqd
  have HD0 := Lib.hid (show (X.den : Int) ≠ 0 by have := X.den_pos; omega)
  clear hq hqd
  obtain ⟨B0, B2, hE0⟩ := boxesT2 w 35 35 #[.int .i64 s1, .slice A1 n1 c1, .int .i64 s1', .slice A1' n1' c1'] #[.int .i64 0, .slice none 0 0, .int .i64 0, .slice none 0 0]
  obtain ⟨hXn, hXd⟩ := (hx.ext hE0).parts
  go_enter Tryz.func16, Tryz.ntmps16
  go_wp2_with fail
  generalize ((w.alloc (.cells #[.int .i64 s1, .slice A1 n1 c1, .int .i64 s1', .slice A1' n1' c1'] 35)).alloc (.cells #[.int .i64 0, .slice none 0 0, .int .i64 0, .slice none 0 0] 35)) = W0 at *
  have ks := KE.start (R := [w.heap.size + 1]) hE0 (by simp)
  have kb0 : w.heap.size ∉ [w.heap.size + 1] := by simp
  have k00 : ∀ w', KE [w.heap.size + 1] w W0 w' → w'.cell? ⟨_, 0, none⟩ = some _ := fun w' h => (h.bx B0 kb0).c0
  have k01 : ∀ w', KE [w.heap.size + 1] w W0 w' → w'.cell? ⟨_, 1, none⟩ = some _ := fun w' h => (h.bx B0 kb0).c1
  have k02 : ∀ w', KE [w.heap.size + 1] w W0 w' → w'.cell? ⟨_, 2, none⟩ = some _ := fun w' h => (h.bx B0 kb0).c2
  have k03 : ∀ w', KE [w.heap.size + 1] w W0 w' → w'.cell? ⟨_, 3, none⟩ = some _ := fun w' h => (h.bx B0 kb0).c3
  clear hx
  go_region_held3 (fun w' => KE [w.heap.size + 1] w W0 w') ((repeat (first | assumption | apply KE.drew | apply KE.drewN | apply KE.alloc | (refine KE.set ?_ (by simp) _) | (refine KE.step ?_ (by assumption))))) (first
      | (go_at_call 39; (with_reducible refine (RMul_b _ _ _ _ _ _ _ (NumB.ext (by assumption) (by repeat (first | (with_reducible exact Ext.refl _) | (with_reducible apply Ext.drew) | (with_reducible apply Ext.drewN) | (with_reducible refine Ext.trans ?_ (by assumption))))) (NumB.ext (by assumption) (by repeat (first | (with_reducible exact Ext.refl _) | (with_reducible apply Ext.drew) | (with_reducible apply Ext.drewN) | (with_reducible refine Ext.trans ?_ (by assumption))))) (by omega)).mono ?_); rintro e wk ⟨vk, rfl, hbk, hxk⟩; (obtain ⟨sk, Ak, nk, ck, rfl⟩ := hbk.shape))
      | (go_at_call 41; (with_reducible refine (RAdd_b _ _ _ _ _ _ _ (NumB.ext (by assumption) (by repeat (first | (with_reducible exact Ext.refl _) | (with_reducible apply Ext.drew) | (with_reducible apply Ext.drewN) | (with_reducible refine Ext.trans ?_ (by assumption))))) (NumB.ext (by assumption) (by repeat (first | (with_reducible exact Ext.refl _) | (with_reducible apply Ext.drew) | (with_reducible apply Ext.drewN) | (with_reducible refine Ext.trans ?_ (by assumption))))) (by omega)).mono ?_); rintro e wk ⟨vk, rfl, hbk, hxk⟩; (obtain ⟨sk, Ak, nk, ck, rfl⟩ := hbk.shape))
      | (go_at_call 42; (with_reducible refine (RNeg_b _ _ _ _ (NumB.ext (by assumption) (by repeat (first | (with_reducible exact Ext.refl _) | (with_reducible apply Ext.drew) | (with_reducible apply Ext.drewN) | (with_reducible refine Ext.trans ?_ (by assumption)))))).mono ?_); rintro e wk ⟨vk, rfl, hbk, hxk⟩; (obtain ⟨sk, Ak, nk, ck, rfl⟩ := hbk.shape))
      | (go_at_call 38; (with_reducible refine (RCmp_b _ _ _ _ _ _ _ (NumB.ext (by assumption) (by repeat (first | (with_reducible exact Ext.refl _) | (with_reducible apply Ext.drew) | (with_reducible apply Ext.drewN) | (with_reducible refine Ext.trans ?_ (by assumption))))) (NumB.ext (by assumption) (by repeat (first | (with_reducible exact Ext.refl _) | (with_reducible apply Ext.drew) | (with_reducible apply Ext.drewN) | (with_reducible refine Ext.trans ?_ (by assumption))))) (by omega)).mono ?_); rintro e wk ⟨rfl, hxk⟩)
      | (go_at_call 31; (with_reducible refine (FMake_b _ _ _ _ _ _ _ (NumB.ext (by assumption) (by repeat (first | (with_reducible exact Ext.refl _) | (with_reducible apply Ext.drew) | (with_reducible apply Ext.drewN) | (with_reducible refine Ext.trans ?_ (by assumption))))) (NumB.ext (by assumption) (by repeat (first | (with_reducible exact Ext.refl _) | (with_reducible apply Ext.drew) | (with_reducible apply Ext.drewN) | (with_reducible refine Ext.trans ?_ (by assumption))))) (by omega) HD0.out).mono ?_); rintro e wk ⟨vk, rfl, hbk, hxk⟩; (obtain ⟨sk, Ak, nk, ck, sk', Ak', nk', ck', rfl⟩ := hbk.shape); (have b2 := Box.ext B2 (show Ext W0 wk by repeat (first | (with_reducible exact Ext.refl _) | (with_reducible apply Ext.drew) | (with_reducible apply Ext.drewN) | (with_reducible refine Ext.trans ?_ (by assumption))))); have q0 := b2.c0; have q1 := b2.c1; have q2 := b2.c2; have q3 := b2.c3; have f0 := b2.frozen 0; have f1 := b2.frozen 1; have f2 := b2.frozen 2; have f3 := b2.frozen 3)
    )
  all_goals (rw [← HQ.out] at hbk)
  all_goals go_wp2_with fail
  all_goals (
    obtain ⟨hk1, hk2⟩ := hbk.parts
    obtain ⟨pp, pb⟩ := FracV.put hk1.1 hk2.1 b2
    have pc0 := pb.c0
    have pc1 := pb.c1
    have pc2 := pb.c2
    have pc3 := pb.c3
    refine bodyPost_ret (v := .agg #[.int .i64 sk, .slice Ak nk ck, .int .i64 sk', .slice Ak' nk' ck']) (by simp [results, Tryz.results16, go_sem, pc0, pc1, pc2, pc3]) rfl ?_
    exact ⟨_, rfl, ⟨pp, BT_mono (by omega) hk1.2, BT_mono (by omega) hk2.2⟩, KE.ext (R := [w.heap.size + 1]) (W0 := W0) (by assumption)⟩)

set_option maxHeartbeats 8000000 in
theorem FCmp_b (x y : Value) (X Y : Rat) (j k : Nat) (w : World) (hx : FracB w x X j) (hy : FracB w y Y k) (hL : max j k ≤ 10000000000) : Calls Tryz.prog 21 #[x, y] w (IntPost w (cmpQ X Y)) := by
  obtain ⟨s1, A1, n1, c1, s1', A1', n1', c1', rfl⟩ := hx.shape
  obtain ⟨s2, A2, n2, c2, s2', A2', n2', c2', rfl⟩ := hy.shape
  obtain ⟨B0, B1, hE0⟩ := boxesT2 w 35 35 #[.int .i64 s1, .slice A1 n1 c1, .int .i64 s1', .slice A1' n1' c1'] #[.int .i64 s2, .slice A2 n2 c2, .int .i64 s2', .slice A2' n2' c2']
  obtain ⟨hXn, hXd⟩ := (hx.ext hE0).parts
  obtain ⟨hYn, hYd⟩ := (hy.ext hE0).parts
  go_enter Tryz.func21, Tryz.ntmps21
  go_wp2_with fail
  generalize ((w.alloc (.cells #[.int .i64 s1, .slice A1 n1 c1, .int .i64 s1', .slice A1' n1' c1'] 35)).alloc (.cells #[.int .i64 s2, .slice A2 n2 c2, .int .i64 s2', .slice A2' n2' c2'] 35)) = W0 at *
  clear hx hy
  have k00 : ∀ w', Later W0 w' → w'.cell? ⟨_, 0, none⟩ = some _ := fun w' h => (B0.ext h).c0
  have k01 : ∀ w', Later W0 w' → w'.cell? ⟨_, 1, none⟩ = some _ := fun w' h => (B0.ext h).c1
  have k02 : ∀ w', Later W0 w' → w'.cell? ⟨_, 2, none⟩ = some _ := fun w' h => (B0.ext h).c2
  have k03 : ∀ w', Later W0 w' → w'.cell? ⟨_, 3, none⟩ = some _ := fun w' h => (B0.ext h).c3
  have k10 : ∀ w', Later W0 w' → w'.cell? ⟨_, 0, none⟩ = some _ := fun w' h => (B1.ext h).c0
  have k11 : ∀ w', Later W0 w' → w'.cell? ⟨_, 1, none⟩ = some _ := fun w' h => (B1.ext h).c1
  have k12 : ∀ w', Later W0 w' → w'.cell? ⟨_, 2, none⟩ = some _ := fun w' h => (B1.ext h).c2
  have k13 : ∀ w', Later W0 w' → w'.cell? ⟨_, 3, none⟩ = some _ := fun w' h => (B1.ext h).c3
  have hS0 := Later.refl W0
  go_region_held3 (fun w' => Later W0 w') ((repeat (first | assumption | apply Later.drew | apply Later.drewN | apply Later.alloc | (refine Later.step ?_ (by assumption))))) (first
      | (go_at_call 39; (with_reducible refine (RMul_b _ _ _ _ _ _ _ (NumB.ext (by assumption) (by repeat (first | (with_reducible exact Ext.refl _) | (with_reducible apply Ext.drew) | (with_reducible apply Ext.drewN) | (with_reducible refine Ext.trans ?_ (by assumption))))) (NumB.ext (by assumption) (by repeat (first | (with_reducible exact Ext.refl _) | (with_reducible apply Ext.drew) | (with_reducible apply Ext.drewN) | (with_reducible refine Ext.trans ?_ (by assumption))))) (by omega)).mono ?_); rintro e wk ⟨vk, rfl, hbk, hxk⟩; (obtain ⟨sk, Ak, nk, ck, rfl⟩ := hbk.shape))
      | (go_at_call 41; (with_reducible refine (RAdd_b _ _ _ _ _ _ _ (NumB.ext (by assumption) (by repeat (first | (with_reducible exact Ext.refl _) | (with_reducible apply Ext.drew) | (with_reducible apply Ext.drewN) | (with_reducible refine Ext.trans ?_ (by assumption))))) (NumB.ext (by assumption) (by repeat (first | (with_reducible exact Ext.refl _) | (with_reducible apply Ext.drew) | (with_reducible apply Ext.drewN) | (with_reducible refine Ext.trans ?_ (by assumption))))) (by omega)).mono ?_); rintro e wk ⟨vk, rfl, hbk, hxk⟩; (obtain ⟨sk, Ak, nk, ck, rfl⟩ := hbk.shape))
      | (go_at_call 42; (with_reducible refine (RNeg_b _ _ _ _ (NumB.ext (by assumption) (by repeat (first | (with_reducible exact Ext.refl _) | (with_reducible apply Ext.drew) | (with_reducible apply Ext.drewN) | (with_reducible refine Ext.trans ?_ (by assumption)))))).mono ?_); rintro e wk ⟨vk, rfl, hbk, hxk⟩; (obtain ⟨sk, Ak, nk, ck, rfl⟩ := hbk.shape))
      | (go_at_call 38; (with_reducible refine (RCmp_b _ _ _ _ _ _ _ (NumB.ext (by assumption) (by repeat (first | (with_reducible exact Ext.refl _) | (with_reducible apply Ext.drew) | (with_reducible apply Ext.drewN) | (with_reducible refine Ext.trans ?_ (by assumption))))) (NumB.ext (by assumption) (by repeat (first | (with_reducible exact Ext.refl _) | (with_reducible apply Ext.drew) | (with_reducible apply Ext.drewN) | (with_reducible refine Ext.trans ?_ (by assumption))))) (by omega)).mono ?_); rintro e wk ⟨rfl, hxk⟩)
      | (go_at_call 31; (with_reducible refine (FMake_b _ _ _ _ _ _ _ (NumB.ext (by assumption) (by repeat (first | (with_reducible exact Ext.refl _) | (with_reducible apply Ext.drew) | (with_reducible apply Ext.drewN) | (with_reducible refine Ext.trans ?_ (by assumption))))) (NumB.ext (by assumption) (by repeat (first | (with_reducible exact Ext.refl _) | (with_reducible apply Ext.drew) | (with_reducible apply Ext.drewN) | (with_reducible refine Ext.trans ?_ (by assumption))))) (by omega) HD0.out).mono ?_); rintro e wk ⟨vk, rfl, hbk, hxk⟩; (obtain ⟨sk, Ak, nk, ck, sk', Ak', nk', ck', rfl⟩ := hbk.shape); (have b2 := Box.ext B2 (show Ext W0 wk by repeat (first | (with_reducible exact Ext.refl _) | (with_reducible apply Ext.drew) | (with_reducible apply Ext.drewN) | (with_reducible refine Ext.trans ?_ (by assumption))))); have q0 := b2.c0; have q1 := b2.c1; have q2 := b2.c2; have q3 := b2.c3; have f0 := b2.frozen 0; have f1 := b2.frozen 1; have f2 := b2.frozen 2; have f3 := b2.frozen 3)
    )
  all_goals go_wp2_with fail
  all_goals go_ret
  all_goals exact ⟨by rw [← cmpZ_Q]; rfl, hE0.trans (show Later W0 _ by assumption)⟩
end Go.Proofs.YtginogcdjplhiaaGreatDoor.Ten

namespace Go.Proofs.YtginogcdjplhiaaGreatDoor.Ten
open Go.RowKit Go.Proofs.YtginogcdjplhiaaGreatDoor.Big Go.Proofs.YtginogcdjplhiaaGreatDoor.Rt
open Go.Lib (itoa)

theorem BT_floor {L : Nat} {n d : Int} (hd : 0 < d) (hn : BT L n) (hL : 0 < L) : BT (L + 1) (n / d) := by
  have h := tdiv_floor (n := n) hd
  have b1 : BT L (n.tdiv d) := BT_tdiv _ hn
  by_cases hc : n.tmod d < 0
  · rw [← h.1 hc, Int.sub_eq_add_neg]
    exact BT_add b1 (BT_neg (BT_one hL))
  · rw [← h.2 hc]; exact BT_mono (by omega) b1

set_option maxRecDepth 100000 in
set_option maxHeartbeats 8000000 in
theorem FFloor_b (x : Value) (X : Rat) (L : Nat) (w : World) (hx : FracB w x X L) (hL0 : 0 < L) (hL : L ≤ 10000000000) : Calls Tryz.prog 25 #[x] w (NumBPost w (floorZ X) (L + 1)) := by
  obtain ⟨s1, A1, n1, c1, s1', A1', n1', c1', rfl⟩ := hx.shape
  obtain ⟨D, hD⟩ : ∃ D : Int, D = (X.den : Int) := ⟨_, rfl⟩
  have hD0 : 0 < D := by have := X.den_pos; omega
  obtain ⟨Z, hZ⟩ : ∃ Z, Z = floorZ X := ⟨_, rfl⟩
  obtain ⟨N, hN⟩ : ∃ N, N = X.num := ⟨_, rfl⟩
  obtain ⟨B0, B1, hE0⟩ := boxesT2 w 35 33 #[.int .i64 s1, .slice A1 n1 c1, .int .i64 s1', .slice A1' n1' c1'] #[.int .i64 0, .slice none 0 0]
  obtain ⟨hXn, hXd⟩ := (hx.ext hE0).parts
  have hTM := tdiv_floor (n := N) hD0
  have hZ2 : N / D = Z := by rw [hZ, hN, hD]; rfl
  rw [hZ2] at hTM
  have bZ : BT (L + 1) Z := by rw [← hZ2]; exact BT_floor hD0 (by rw [hN]; exact hXn.2) hL0
  rw [← hZ]
  rw [← hN] at hXn
  rw [← hD] at hXd
  obtain ⟨T, hT⟩ : ∃ T, T = N.tdiv D := ⟨_, rfl⟩
  obtain ⟨M, hM⟩ : ∃ M, M = N.tmod D := ⟨_, rfl⟩
  rw [← hT, ← hM] at hTM
  have bT : BT L T := by rw [hT]; exact BT_tdiv _ hXn.2
  have HT := Lib.hid hT
  have HM := Lib.hid hM
  have HTM := Lib.hid hTM
  have HD0 := Lib.hid hD0
  clear hT hM hTM hD0 hD hZ hZ2 hN hx
  go_enter Tryz.func25, Tryz.ntmps25
  go_wp2_with fail
  generalize ((w.alloc (.cells #[.int .i64 s1, .slice A1 n1 c1, .int .i64 s1', .slice A1' n1' c1'] 35)).alloc (.cells #[.int .i64 0, .slice none 0 0] 33)) = W0 at *
  refine (Div_any _ _ N D L _ hXn.1 hXd.1 hXn.2 hXd.2 (by omega) (by have := HD0.out; omega)).mono ?_
  rintro e w2 ⟨q, r, rfl, hq, hr, hx2⟩
  rw [← HT.out] at hq
  rw [← HM.out] at hr
  obtain ⟨s3, A3, n3, c3, rfl, -⟩ := hq.shape
  obtain ⟨s4, A4, n4, c4, rfl, hs4⟩ := hr.shape
  have HS4 := Lib.hid hs4
  clear hs4
  go_upto_region 2 with fail
  obtain ⟨B3, B4, hx3⟩ := boxes2 w2 33 #[.int .i64 s3, .slice A3 n3 c3] #[.int .i64 s4, .slice A4 n4 c4]
  have hlt := (B1.ext hx2).lt
  have B1 := (B1.ext hx2).ext hx3
  have hq := hq.ext hx3
  have hE := (hE0.trans hx2).trans hx3
  generalize ((w2.alloc (.cells #[.int .i64 s3, .slice A3 n3 c3] 33)).alloc (.cells #[.int .i64 s4, .slice A4 n4 c4] 33)) = W2 at *
  clear hx2 hx3 B0 hE0 hXn hXd hr
  generalize w2.heap.size = b3 at *
  have q40 := B4.c0
  have q41 := B4.c1
  by_cases hc : M < 0
  · have e1 : decide (s4 < 0) = true := by rw [HS4.out, sign_blt]; simpa using hc
    have hr := HTM.out.1 hc
    have HR := Lib.hid (show T + -1 = Z by omega)
    clear hc hr
    have q0 := B3.c0
    have q1 := B3.c1
    go_upto_region 3 with fail
    have hqB : NumB W2 (.agg #[.int .i64 s3, .slice A3 n3 c3]) T L := ⟨hq, bT⟩
    go_region_with (first
      | (go_at_call 30; (with_reducible refine (one_any _).mono ?_); rintro e wa ⟨va, rfl, ha, hxa⟩; (obtain ⟨sa, Aa, na, ca, rfl, -⟩ := ha.shape); (have haB := NumB.one ha hL0); (have E3 := B3.drew.ext hxa); have g0 := E3.c0; have g1 := E3.c1; have g2 := E3.frozen 0; have g3 := E3.frozen 1)
      | (go_at_call 42; (with_reducible refine (RNeg_b _ 1 L _ (NumB.ext haB (by repeat (first | (with_reducible exact Ext.refl _) | (with_reducible apply Ext.drew) | (with_reducible apply Ext.drewN) | (with_reducible refine Ext.trans ?_ (by assumption)))))).mono ?_); rintro e wb ⟨vb, rfl, hb, hxb⟩; (obtain ⟨sb, Ab, nb, cb, rfl⟩ := hb.shape); (have E3 := E3.ext hxb); have h0 := E3.c0; have h1 := E3.c1; have h2 := E3.frozen 0; have h3 := E3.frozen 1)
      | (go_at_call 41; (with_reducible refine (RAdd_b _ _ T (-1) L L _ (NumB.ext hqB (by repeat (first | (with_reducible exact Ext.refl _) | (with_reducible apply Ext.drew) | (with_reducible apply Ext.drewN) | (with_reducible refine Ext.trans ?_ (by assumption))))) (NumB.ext hb (by repeat (first | (with_reducible exact Ext.refl _) | (with_reducible apply Ext.drew) | (with_reducible apply Ext.drewN) | (with_reducible refine Ext.trans ?_ (by assumption))))) (by omega)).mono ?_); rintro e wc ⟨vc, rfl, hcc, hxc⟩; (obtain ⟨sc, Ac, nc, cc, rfl⟩ := hcc.shape); (have E3 := E3.ext hxc); have i0 := E3.c0; have i1 := E3.c1; have i2 := E3.frozen 0; have i3 := E3.frozen 1))
    all_goals (rw [HR.out] at hcc)
    all_goals (have hxz : Ext W2 wc := drew_of ((hxa.trans hxb).trans hxc))
    all_goals (
      have hz := hcc.1.s2 E3 (.int .i64 sc) (.slice Ac nc cc)
      have B1 := Box.f2 (B1.ext hxz) (show w.heap.size + 1 ≠ b3 by omega) (.int .i64 sc) (.slice Ac nc cc)
      have hle : w.heap.size ≤ b3 := by omega
      have hE := ((hE.trans hxz).set (p := ⟨b3, 0, none⟩) hle (.int .i64 sc)).set (p := ⟨b3, 1, none⟩) hle (.slice Ac nc cc)
      have E4 := E3.put2 (.int .i64 sc) (.slice Ac nc cc)
      generalize ((wc.setCell ⟨b3, 0, none⟩ (.int .i64 sc)).setCell ⟨b3, 1, none⟩ (.slice Ac nc cc)) = W9 at *
      clear q0 q1 q40 q41
      have q0 := E4.c0
      have q1 := E4.c1
      have r0 := B1.c0
      have r1 := B1.c1
      have f0 := B1.frozen 0
      have f1 := B1.frozen 1
      go_wp2_with fail
      obtain ⟨p1, p2, p3⟩ := hz.put B1
      refine bodyPost_ret (v := .agg #[.int .i64 sc, .slice Ac nc cc]) (by simp [results, Tryz.results25, go_sem, p2, p3]) rfl ?_
      exact ⟨_, rfl, ⟨p1, bZ⟩, (hE.set (by simp) _).set (by simp) _⟩)
  · have e1 : decide (s4 < 0) = false := by rw [HS4.out, sign_blt]; simpa using hc
    have hr := HTM.out.2 (by omega)
    rw [hr] at hq
    clear hc hr
    have q0 := B3.c0
    have q1 := B3.c1
    have r0 := B1.c0
    have r1 := B1.c1
    have f0 := B1.frozen 0
    have f1 := B1.frozen 1
    go_wp2_with fail
    obtain ⟨p1, p2, p3⟩ := hq.put B1
    refine bodyPost_ret (v := .agg #[.int .i64 s3, .slice A3 n3 c3]) (by simp [results, Tryz.results25, go_sem, p2, p3]) rfl ?_
    exact ⟨_, rfl, ⟨p1, bZ⟩, (hE.set (by simp) _).set (by simp) _⟩
end Go.Proofs.YtginogcdjplhiaaGreatDoor.Ten
