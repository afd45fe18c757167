/- Walks: Sub, Of, Bits, Div. -/
import Derived.Test.YtnojllmidpdbcaaDoorW9
set_option linter.unusedVariables false
set_option linter.unusedSimpArgs false
namespace Go.Proofs.YtnojllmidpdbcaaDoor.Big
open Go.RowKit
attribute [local go_sem ↓] Go.wp_at_zero Go.wp_at_succ

set_option maxHeartbeats 4000000 in
theorem Sub_any (x y : Value) (X Y : Int) (L : Nat) (w : World) (hx : BigV w x X) (hy : BigV w y Y) (bx : X.natAbs < pw L) (bY : Y.natAbs < pw L) (hL : L ≤ 1099511627776) :
    Calls Tryd.prog 28 #[x, y] w (BigPost w (X - Y)) := by
  obtain ⟨A1, n1, c1, rfl, hd1, ht1⟩ := hx.form
  obtain ⟨A2, n2, c2, rfl, hd2, ht2⟩ := hy.form
  obtain ⟨Z, hZ⟩ : ∃ Z, Z = X - Y := ⟨_, rfl⟩
  obtain ⟨Y', hY'⟩ : ∃ Y', Y' = -Y := ⟨_, rfl⟩
  rw [← hZ]
  have HZ : Hid (X + Y' = Z) := Lib.hid (by omega)
  have HY := Lib.hid hY'
  have bY' : Y'.natAbs < pw L := by rw [hY', Int.natAbs_neg]; exact bY
  clear hZ hY'
  go_enter Tryd.func28, Tryd.ntmps28
  go_wp2_with fail
  obtain ⟨B0, B1, B2, hE0⟩ := boxes3 w 25 #[.bool (decide (X < 0)), .slice A1 n1 c1] #[.bool (decide (Y < 0)), .slice A2 n2 c2] #[.bool false, .slice none 0 0]
  generalize (((w.alloc (.cells #[.bool (decide (X < 0)), .slice A1 n1 c1] 25)).alloc (.cells #[.bool (decide (Y < 0)), .slice A2 n2 c2] 25)).alloc (.cells #[.bool false, .slice none 0 0] 25)) = W0 at *
  have k00 := KE.c0 (w := w) B0 (show w.heap.size ∉ [w.heap.size + 1 + 1] by simp; omega)
  have k01 := KE.c1 (w := w) B0 (show w.heap.size ∉ [w.heap.size + 1 + 1] by simp; omega)
  have k10 := KE.c0 (w := w) B1 (show w.heap.size + 1 ∉ [w.heap.size + 1 + 1] by simp)
  have k11 := KE.c1 (w := w) B1 (show w.heap.size + 1 ∉ [w.heap.size + 1 + 1] by simp)
  have ks := KE.start (R := [w.heap.size + 1 + 1]) hE0 (by simp; omega)
  go_region_held3 (fun w' => KE [w.heap.size + 1 + 1] w W0 w') ((repeat (first | assumption | apply KE.drew | apply KE.drewN | (refine KE.set ?_ (by simp) _) | (refine KE.step ?_ (by assumption))))) (first | (go_at_call 27; refine (Neg_any _ _ _ (hy.ext (KE.ext (by assumption)))).mono ?_; rintro e w1 ⟨v1, rfl, hb1, hxA⟩; rw [← HY.out] at hb1) | (go_at_call 24; refine (Add_any _ _ _ _ L _ (hx.ext (KE.ext (by assumption))) hb1 bx bY' hL).mono ?_; rintro e w2 ⟨v2, rfl, hb2, hxB⟩; rw [HZ.out] at hb2; obtain ⟨A3, n3, c3, rfl, hd3, ht3⟩ := hb2.form; have b2 := (B2.drew.ext hxA).ext hxB; have q0 := b2.c0; have q1 := b2.c1; have f0 := b2.frozen 0; have f1 := b2.frozen 1))
  obtain ⟨p1, p2, p3⟩ := hb2.put b2
  go_wp2_with fail
  refine bodyPost_ret (v := .agg #[.bool (decide (Z < 0)), .slice A3 n3 c3]) (by simp [results, Tryd.results28, go_sem, p2, p3]) rfl ?_
  exact ⟨_, rfl, p1, KE.ext (by assumption)⟩

theorem two_digits {a : Nat} (h : a < 18446744073709551616) : a < pw 2 ∧ dgt a 0 = a % 4294967296 ∧ dgt a 1 = a / 4294967296 := by
  refine ⟨h, ?_, ?_⟩
  · unfold dgt; rw [pw_zero, Nat.div_one]
  · unfold dgt; rw [pw_one]; omega
theorem Dig.two (w : World) (E : TypeId) {a : Nat} (h : a < 18446744073709551616) {lo hi : Int} (hlo : lo = (a % 4294967296 : Nat)) (hhi : hi = (a / 4294967296 : Nat)) :
    Dig (w.alloc (.cells #[.int .u32 lo, .int .u32 hi] E)) (.slice (some ⟨w.heap.size, 0, none⟩) 2 2) 2 a := by
  obtain ⟨h1, h2, h3⟩ := two_digits h
  refine ⟨_, 2, rfl, by omega, by omega, h1, fun _ => ⟨_, 0, rfl, fun j hj => ?_⟩⟩
  rw [cell_of_row _ _ _ _ _ _ (heap_alloc_new w _)]
  match j, hj with
  | 0, _ => rw [h2, hlo]; rfl
  | 1, _ => rw [h3, hhi]; rfl

set_option maxHeartbeats 1000000 in
theorem Of_any (n : Int) (w : World) (h0 : -9223372036854775808 ≤ n) (h1 : n ≤ 9223372036854775807) : Calls Tryd.prog 18 #[.int .i64 n] w (BigPost w n) := by
  by_cases hn : n < 0
  · have e1 : IntKind.u64.wrap (-IntKind.u64.wrap n) = (n.natAbs : Int) := by rw [IntKind.wrap_u64, IntKind.wrap_u64]; omega
    have ha : n.natAbs < 18446744073709551616 := by omega
    have HS := Lib.hid (show sgn true n.natAbs = n by unfold sgn; simp; omega)
    go_enter Tryd.func18, Tryd.ntmps18
    go_wp2_with fail
    have hD := Dig.two (w.alloc (.cells #[.bool false, .slice none 0 0] 25)) 79 ha (lo := (n.natAbs : Int) % 4294967296) (hi := (n.natAbs : Int) / 4294967296) (by omega) (by omega)
    rw [show (w.alloc (.cells #[.bool false, .slice none 0 0] 25)).heap.size = w.heap.size + 1 by simp] at hD
    have B1 := (Box.new w 25 #[.bool false, .slice none 0 0]).alloc (.cells #[.int .u32 ((n.natAbs : Int) % 4294967296), .int .u32 ((n.natAbs : Int) / 4294967296)] 79)
    refine (signed_any _ _ _ _ _ hD).mono ?_
    rintro e w2 ⟨v2, rfl, hb2, hxB⟩
    rw [HS.out] at hb2
    have HT : decide (n < 0) = true := by simpa using hn
    have HB := hb2
    have hE : Ext w w2 := (((Ext.refl w).alloc _).alloc _).trans hxB
    obtain ⟨A3, n3, c3, rfl, hd3, ht3⟩ := hb2.form
    rw [HT] at hb2 ⊢
    clear HT HB
    have b2 := B1.ext hxB
    have q0 := b2.c0
    have q1 := b2.c1
    have f0 := b2.frozen 0
    have f1 := b2.frozen 1
    clear hD
    go_wp2_with fail
    obtain ⟨p1, p2, p3⟩ := hb2.put b2
    refine bodyPost_ret (v := .agg #[.bool true, .slice A3 n3 c3]) (by simp [results, Tryd.results18, go_sem, p2, p3]) rfl ?_
    exact ⟨_, rfl, p1, (hE.set (by simp) _).set (by simp) _⟩
  · have e1 : IntKind.u64.wrap n = (n.natAbs : Int) := by rw [IntKind.wrap_u64]; omega
    have ha : n.natAbs < 18446744073709551616 := by omega
    have HS := Lib.hid (show sgn false n.natAbs = n by unfold sgn; simp; omega)
    go_enter Tryd.func18, Tryd.ntmps18
    go_wp2_with fail
    have hD := Dig.two (w.alloc (.cells #[.bool false, .slice none 0 0] 25)) 79 ha (lo := (n.natAbs : Int) % 4294967296) (hi := (n.natAbs : Int) / 4294967296) (by omega) (by omega)
    rw [show (w.alloc (.cells #[.bool false, .slice none 0 0] 25)).heap.size = w.heap.size + 1 by simp] at hD
    have B1 := (Box.new w 25 #[.bool false, .slice none 0 0]).alloc (.cells #[.int .u32 ((n.natAbs : Int) % 4294967296), .int .u32 ((n.natAbs : Int) / 4294967296)] 79)
    refine (signed_any _ _ _ _ _ hD).mono ?_
    rintro e w2 ⟨v2, rfl, hb2, hxB⟩
    rw [HS.out] at hb2
    have HT : decide (n < 0) = false := by simpa using hn
    have HB := hb2
    have hE : Ext w w2 := (((Ext.refl w).alloc _).alloc _).trans hxB
    obtain ⟨A3, n3, c3, rfl, hd3, ht3⟩ := hb2.form
    rw [HT] at hb2 ⊢
    clear HT HB
    have b2 := B1.ext hxB
    have q0 := b2.c0
    have q1 := b2.c1
    have f0 := b2.frozen 0
    have f1 := b2.frozen 1
    clear hD
    go_wp2_with fail
    obtain ⟨p1, p2, p3⟩ := hb2.put b2
    refine bodyPost_ret (v := .agg #[.bool false, .slice A3 n3 c3]) (by simp [results, Tryd.results18, go_sem, p2, p3]) rfl ?_
    exact ⟨_, rfl, p1, (hE.set (by simp) _).set (by simp) _⟩

def BitsPost (w : World) (V : Nat) (e : Ending) (w' : World) : Prop := ∃ nb : Nat, e = .returned (.int .i64 nb) ∧ (V = 0 → nb = 0) ∧ (0 < V → 1 ≤ nb ∧ 2 ^ (nb - 1) ≤ V ∧ V < 2 ^ nb) ∧ Ext w w'

theorem pw_two (k : Nat) : pw k = 2 ^ (32 * k) := by unfold pw; rw [Nat.pow_mul]
theorem bits_top {V n : Nat} (hn : 1 ≤ n) (hV : V < pw n) (h : dgt V (n - 1) ≠ 0) : 1 ≤ Lib.bitLen (dgt V (n - 1)) ∧ Lib.bitLen (dgt V (n - 1)) ≤ 32 ∧
    (1 ≤ 32 * (n - 1) + Lib.bitLen (dgt V (n - 1)) ∧ 2 ^ (32 * (n - 1) + Lib.bitLen (dgt V (n - 1)) - 1) ≤ V ∧ V < 2 ^ (32 * (n - 1) + Lib.bitLen (dgt V (n - 1)))) := by
  have hb := dgt_lt V (n - 1)
  have h2 := Lib.bitLen_le (dgt V (n - 1)) 32 (by omega) hb
  obtain ⟨h3, h4, h5⟩ := Lib.bitLenAux_bounds 64 (dgt V (n - 1)) (by omega) h
  rw [show Lib.bitLenAux 64 (dgt V (n - 1)) = Lib.bitLen (dgt V (n - 1)) from rfl] at h3 h4 h5
  have e := div_pw hn hV
  have d1 := Nat.div_mul_le_self V (pw (n - 1))
  have d2 := Nat.lt_div_mul_add (pw_pos (n - 1)) (a := V)
  rw [e] at d1 d2
  refine ⟨h3, h2, by omega, ?_, ?_⟩
  · rw [show 32 * (n - 1) + Lib.bitLen (dgt V (n - 1)) - 1 = (Lib.bitLen (dgt V (n - 1)) - 1) + 32 * (n - 1) by omega, Nat.pow_add, ← pw_two]
    exact Nat.le_trans (Nat.mul_le_mul_right _ h4) d1
  · rw [Nat.add_comm, Nat.pow_add, ← pw_two]
    have : (dgt V (n - 1) + 1) * pw (n - 1) ≤ 2 ^ Lib.bitLen (dgt V (n - 1)) * pw (n - 1) := Nat.mul_le_mul_right _ h5
    rw [Nat.succ_mul] at this
    omega

set_option maxHeartbeats 1000000 in
theorem Bits_any (x : Value) (X : Int) (L : Nat) (w : World) (hx : BigV w x X) (bx : X.natAbs < pw L) (hL : L ≤ 1099511627776) : Calls Tryd.prog 26 #[x] w (BitsPost w X.natAbs) := by
  obtain ⟨A, n, c, rfl, hd, ht⟩ := hx.form
  obtain ⟨-, h1, h2, hV, hc⟩ := hd.inj
  have hl := ht.le bx
  have hp := ht.pos_iff hV
  by_cases h0 : n = 0
  · subst h0
    go_enter Tryd.func26, Tryd.ntmps26
    go_wp2_with fail
    go_ret
    exact ⟨0, rfl, fun _ => rfl, fun h => by omega, (Ext.refl w).alloc _⟩
  · obtain ⟨b, off, rfl, hcc⟩ := hc (by omega)
    have hct := hcc (n - 1) (by omega)
    have hbw : b < w.heap.size := World.block_lt_of_cell? _ _ hct
    have hb0 := dgt_lt X.natAbs (n - 1)
    clear hcc hc
    go_enter Tryd.func26, Tryd.ntmps26
    go_wp2_with fail
    refine (Tryd.bits_Len32 _ _ (by omega) (by omega)).mono ?_
    rintro e w' ⟨rfl, rfl⟩
    rw [Int.toNat_natCast]
    have ht0 : dgt X.natAbs (n - 1) ≠ 0 := fun h => by
      have := lt_of_dgt_zero (n := n - 1) (by rw [show n - 1 + 1 = n by omega]; exact hV) h
      rcases ht with h' | h' <;> omega
    obtain ⟨b1, b2, b3⟩ := bits_top (by omega) hV ht0
    have HB := Lib.hid b3
    obtain ⟨bl, hbl⟩ : ∃ bl, bl = Lib.bitLen (dgt X.natAbs (n - 1)) := ⟨_, rfl⟩
    rw [← hbl] at b1 b2 HB ⊢
    clear hbl b3 ht0
    go_wp2_with fail
    go_ret
    refine ⟨32 * (n - 1) + bl, ?_, fun h => ?_, fun _ => HB.out, (Ext.refl w).alloc _⟩
    · show Ending.returned (.int .i64 _) = _
      rw [show (32 * ((n : Int) - 1) + (bl : Int)) = ((32 * (n - 1) + bl : Nat) : Int) by omega]
    · omega

end Go.Proofs.YtnojllmidpdbcaaDoor.Big
