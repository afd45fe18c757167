/- Walks: Sub, Of, Bits, Div. -/
import Derived.Test.YtginogcdjplhiaaGreatDoorW9
set_option linter.unusedVariables false
set_option linter.unusedSimpArgs false
namespace Go.Proofs.YtginogcdjplhiaaGreatDoor.Big
open Go.RowKit
attribute [local go_sem ↓] Go.wp_at_zero Go.wp_at_succ

set_option maxHeartbeats 4000000 in
theorem Sub_any (x y : Value) (X Y : Int) (L : Nat) (w : World) (hx : BigV w x X) (hy : BigV w y Y) (bx : X.natAbs < pw L) (bY : Y.natAbs < pw L) (hL : L ≤ 1099511627776) :
    Calls Tryz.prog 45 #[x, y] w (BigPost w (X - Y)) := by
  obtain ⟨A1, n1, c1, rfl, hd1, ht1⟩ := hx.form
  obtain ⟨A2, n2, c2, rfl, hd2, ht2⟩ := hy.form
  obtain ⟨Z, hZ⟩ : ∃ Z, Z = X - Y := ⟨_, rfl⟩
  obtain ⟨Y', hY'⟩ : ∃ Y', Y' = -Y := ⟨_, rfl⟩
  rw [← hZ]
  have HZ : Hid (X + Y' = Z) := Lib.hid (by omega)
  have HY := Lib.hid hY'
  have bY' : Y'.natAbs < pw L := by rw [hY', Int.natAbs_neg]; exact bY
  clear hZ hY'
  go_enter Tryz.func45, Tryz.ntmps45
  go_wp2_with fail
  obtain ⟨B0, B1, B2, hE0⟩ := boxes3 w 26 #[.bool (decide (X < 0)), .slice A1 n1 c1] #[.bool (decide (Y < 0)), .slice A2 n2 c2] #[.bool false, .slice none 0 0]
  generalize (((w.alloc (.cells #[.bool (decide (X < 0)), .slice A1 n1 c1] 26)).alloc (.cells #[.bool (decide (Y < 0)), .slice A2 n2 c2] 26)).alloc (.cells #[.bool false, .slice none 0 0] 26)) = W0 at *
  have k00 := KE.c0 (w := w) B0 (show w.heap.size ∉ [w.heap.size + 1 + 1] by simp; omega)
  have k01 := KE.c1 (w := w) B0 (show w.heap.size ∉ [w.heap.size + 1 + 1] by simp; omega)
  have k10 := KE.c0 (w := w) B1 (show w.heap.size + 1 ∉ [w.heap.size + 1 + 1] by simp)
  have k11 := KE.c1 (w := w) B1 (show w.heap.size + 1 ∉ [w.heap.size + 1 + 1] by simp)
  have ks := KE.start (R := [w.heap.size + 1 + 1]) hE0 (by simp; omega)
  go_region_held3 (fun w' => KE [w.heap.size + 1 + 1] w W0 w') ((repeat (first | assumption | apply KE.drew | apply KE.drewN | (refine KE.set ?_ (by simp) _) | (refine KE.step ?_ (by assumption))))) (first | (go_at_call 43; refine (Neg_any _ _ _ (hy.ext (KE.ext (by assumption)))).mono ?_; rintro e w1 ⟨v1, rfl, hb1, hxA⟩; rw [← HY.out] at hb1) | (go_at_call 40; refine (Add_any _ _ _ _ L _ (hx.ext (KE.ext (by assumption))) hb1 bx bY' hL).mono ?_; rintro e w2 ⟨v2, rfl, hb2, hxB⟩; rw [HZ.out] at hb2; obtain ⟨A3, n3, c3, rfl, hd3, ht3⟩ := hb2.form; have b2 := (B2.drew.ext hxA).ext hxB; have q0 := b2.c0; have q1 := b2.c1; have f0 := b2.frozen 0; have f1 := b2.frozen 1))
  obtain ⟨p1, p2, p3⟩ := hb2.put b2
  go_wp2_with fail
  refine bodyPost_ret (v := .agg #[.bool (decide (Z < 0)), .slice A3 n3 c3]) (by simp [results, Tryz.results45, go_sem, p2, p3]) rfl ?_
  exact ⟨_, rfl, p1, KE.ext (by assumption)⟩

theorem two_digits {a : Nat} (h : a < 18446744073709551616) : a < pw 2 ∧ dgt a 0 = a % 4294967296 ∧ dgt a 1 = a / 4294967296 := by
  refine ⟨h, ?_, ?_⟩
  · unfold dgt; rw [pw_zero, Nat.div_one]
  · unfold dgt; rw [pw_one]; omega
theorem Dig.two (w : World) (E : TypeId) {a : Nat} (h : a < 18446744073709551616) {lo hi : Int} (hlo : lo = (a % 4294967296 : Nat)) (hhi : hi = (a / 4294967296 : Nat)) :
    Dig (w.alloc (.cells #[.int .u32 lo, .int .u32 hi] E)) (.slice (some ⟨w.heap.size, 0, none⟩) 2 2) 2 a := by
  obtain ⟨h1, h2, h3⟩ := two_digits h
  refine ⟨_, 2, rfl, by omega, by omega, h1, fun _ => ⟨_, 0, rfl, fun j hj => ?_⟩⟩
  rw [cell_of_row _ _ _ _ _ _ (heap_alloc_new w _)]
  match j, hj with
  | 0, _ => rw [h2, hlo]; rfl
  | 1, _ => rw [h3, hhi]; rfl

set_option maxHeartbeats 1000000 in
theorem Of_any (n : Int) (w : World) (h0 : -9223372036854775808 ≤ n) (h1 : n ≤ 9223372036854775807) : Calls Tryz.prog 37 #[.int .i64 n] w (BigPost w n) := by
  by_cases hn : n < 0
  · have e1 : IntKind.u64.wrap (-IntKind.u64.wrap n) = (n.natAbs : Int) := by rw [IntKind.wrap_u64, IntKind.wrap_u64]; omega
    have ha : n.natAbs < 18446744073709551616 := by omega
    have HS := Lib.hid (show sgn true n.natAbs = n by unfold sgn; simp; omega)
    go_enter Tryz.func37, Tryz.ntmps37
    go_wp2_with fail
    have hD := Dig.two (w.alloc (.cells #[.bool false, .slice none 0 0] 26)) 96 ha (lo := (n.natAbs : Int) % 4294967296) (hi := (n.natAbs : Int) / 4294967296) (by omega) (by omega)
    rw [show (w.alloc (.cells #[.bool false, .slice none 0 0] 26)).heap.size = w.heap.size + 1 by simp] at hD
    have B1 := (Box.new w 26 #[.bool false, .slice none 0 0]).alloc (.cells #[.int .u32 ((n.natAbs : Int) % 4294967296), .int .u32 ((n.natAbs : Int) / 4294967296)] 96)
    refine (signed_any _ _ _ _ _ hD).mono ?_
    rintro e w2 ⟨v2, rfl, hb2, hxB⟩
    rw [HS.out] at hb2
    have HT : decide (n < 0) = true := by simpa using hn
    have HB := hb2
    have hE : Ext w w2 := (((Ext.refl w).alloc _).alloc _).trans hxB
    obtain ⟨A3, n3, c3, rfl, hd3, ht3⟩ := hb2.form
    rw [HT] at hb2 ⊢
    clear HT HB
    have b2 := B1.ext hxB
    have q0 := b2.c0
    have q1 := b2.c1
    have f0 := b2.frozen 0
    have f1 := b2.frozen 1
    clear hD
    go_wp2_with fail
    obtain ⟨p1, p2, p3⟩ := hb2.put b2
    refine bodyPost_ret (v := .agg #[.bool true, .slice A3 n3 c3]) (by simp [results, Tryz.results37, go_sem, p2, p3]) rfl ?_
    exact ⟨_, rfl, p1, (hE.set (by simp) _).set (by simp) _⟩
  · have e1 : IntKind.u64.wrap n = (n.natAbs : Int) := by rw [IntKind.wrap_u64]; omega
    have ha : n.natAbs < 18446744073709551616 := by omega
    have HS := Lib.hid (show sgn false n.natAbs = n by unfold sgn; simp; omega)
    go_enter Tryz.func37, Tryz.ntmps37
    go_wp2_with fail
    have hD := Dig.two (w.alloc (.cells #[.bool false, .slice none 0 0] 26)) 96 ha (lo := (n.natAbs : Int) % 4294967296) (hi := (n.natAbs : Int) / 4294967296) (by omega) (by omega)
    rw [show (w.alloc (.cells #[.bool false, .slice none 0 0] 26)).heap.size = w.heap.size + 1 by simp] at hD
    have B1 := (Box.new w 26 #[.bool false, .slice none 0 0]).alloc (.cells #[.int .u32 ((n.natAbs : Int) % 4294967296), .int .u32 ((n.natAbs : Int) / 4294967296)] 96)
    refine (signed_any _ _ _ _ _ hD).mono ?_
    rintro e w2 ⟨v2, rfl, hb2, hxB⟩
    rw [HS.out] at hb2
    have HT : decide (n < 0) = false := by simpa using hn
    have HB := hb2
    have hE : Ext w w2 := (((Ext.refl w).alloc _).alloc _).trans hxB
    obtain ⟨A3, n3, c3, rfl, hd3, ht3⟩ := hb2.form
    rw [HT] at hb2 ⊢
    clear HT HB
    have b2 := B1.ext hxB
    have q0 := b2.c0
    have q1 := b2.c1
    have f0 := b2.frozen 0
    have f1 := b2.frozen 1
    clear hD
    go_wp2_with fail
    obtain ⟨p1, p2, p3⟩ := hb2.put b2
    refine bodyPost_ret (v := .agg #[.bool false, .slice A3 n3 c3]) (by simp [results, Tryz.results37, go_sem, p2, p3]) rfl ?_
    exact ⟨_, rfl, p1, (hE.set (by simp) _).set (by simp) _⟩

theorem pw_two (k : Nat) : pw k = 2 ^ (32 * k) := by unfold pw; rw [Nat.pow_mul]

end Go.Proofs.YtginogcdjplhiaaGreatDoor.Big
