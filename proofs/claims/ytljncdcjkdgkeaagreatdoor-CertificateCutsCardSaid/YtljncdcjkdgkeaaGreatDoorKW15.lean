/- Walks: the methods of an integer. Walks: Mul, Add. Walks: Sign, Neg, Cmp, Sub, Of, Bits. Walks: Sub, Of, Bits, Div. Walks: Div, Gcd. Walks: Int. Walks: isDecimal, Parse. Walks: Parse. Walks: FormatUint at base 10; a strings.Builder that is written. -/
import Derived.Deep.RegionHeld3
import Derived.Deep.DrawnRows
import Derived.Deep.LoopGhost
import Derived.Lib.Strings
import Derived.Lib.IndexBytes
import Derived.Lib.ItoaMem
import Derived.Lib.LaidTab
import Derived.WalkSmall
import Derived.Test.YtljncdcjkdgkeaaGreatDoorKShelf
import Derived.Test.YtljncdcjkdgkeaaGreatDoorKW4
set_option linter.unusedVariables false
set_option linter.unusedSimpArgs false
namespace Go.Proofs.YtljncdcjkdgkeaaGreatDoor.Big
open Go.RowKit

theorem noInt_two (a b : Value) (ha : notInt a = true) (hb : notInt b = true) : ∀ (i : Nat) (k : IntKind) (z : Int), (#[a, b] : Array Value)[i]? ≠ some (.int k z) := by
  intro i k z h
  match i, h with
  | 0, h => simp at h; subst h; cases ha
  | 1, h => simp at h; subst h; cases hb
  | i + 2, h => simp at h
theorem Dig.swap {w : World} {cs cs' : Array Value} {E E' : TypeId} {v : Value} {n V : Nat} (h : Dig (w.alloc (.cells cs E)) v n V) (hcs : ∀ (i : Nat) (k : IntKind) (z : Int), cs[i]? ≠ some (.int k z)) : Dig (w.alloc (.cells cs' E')) v n V := by
  obtain ⟨A, c, rfl, h1, h2, h3, h4⟩ := h
  refine ⟨A, c, rfl, h1, h2, h3, fun hn => ?_⟩
  obtain ⟨b, off, rfl, hc⟩ := h4 hn
  refine ⟨b, off, rfl, fun j hj => ?_⟩
  have hcj := hc j hj
  have hlt : b < (w.alloc (.cells cs E)).heap.size := World.block_lt_of_cell? _ _ hcj
  have hsz : (w.alloc (.cells cs E)).heap.size = w.heap.size + 1 := by simp
  rcases Nat.lt_or_ge b w.heap.size with hb | hb
  · rw [World.cell?_alloc_lt _ _ _ hb] at hcj ⊢; exact hcj
  · exfalso
    obtain rfl : b = w.heap.size := by omega
    rw [cell_of_row _ _ _ _ _ _ (heap_alloc_new w _)] at hcj
    exact hcs _ _ _ hcj

set_option maxHeartbeats 1000000 in
theorem signed_any (neg : Bool) (x : Value) (n V : Nat) (w : World) (hx : Dig w x n V) :
    Calls Tryz.prog 79 #[.bool neg, x] w (BigPost w (sgn neg V)) := by
  have hx' := hx
  obtain ⟨A1, c1, rfl, h1, h2, hX, _⟩ := hx'
  go_enter Tryz.func79, Tryz.ntmps79
  go_wp2_with fail
  refine (trim_any _ _ _ _ _ (hx.ext ((Ext.refl w).alloc _))).mono ?_
  rintro e w' ⟨v, n', rfl, hd, ht, rfl⟩
  have hd' := hd
  obtain ⟨A2, c2, rfl, h3, h4, hV, hcells⟩ := hd'
  have hpos := ht.pos_iff hV
  have HPOS := Lib.hid hpos
  clear hpos
  cases neg
  · go_wp2_with fail
    refine bodyPost_ret (v := .agg #[.bool false, .slice A2 n' c2]) (by simp [results, Tryz.results79, go_sem]) rfl ?_
    exact ⟨_, rfl, ⟨.slice A2 n' c2, n', by rw [sgn_neg]; rfl, by rw [sgn_natAbs]; exact hd.swap (noInt_two _ _ rfl rfl), by rw [sgn_natAbs]; exact ht⟩, (Ext.refl w).alloc _⟩
  · go_wp2_with fail
    refine bodyPost_ret (v := .agg #[.bool (decide (0 < n')), .slice A2 n' c2]) (by simp [results, Tryz.results79, go_sem]) rfl ?_
    exact ⟨_, rfl, ⟨.slice A2 n' c2, n', by rw [sgn_neg]; simp [HPOS.out], by rw [sgn_natAbs]; exact hd.swap (noInt_two _ _ rfl rfl), by rw [sgn_natAbs]; exact ht⟩, (Ext.refl w).alloc _⟩

end Go.Proofs.YtljncdcjkdgkeaaGreatDoor.Big

namespace Go.Proofs.YtljncdcjkdgkeaaGreatDoor.Big
open Go.RowKit
attribute [local go_sem ↓] Go.wp_at_zero Go.wp_at_succ

set_option maxHeartbeats 4000000 in
theorem Mul_any (x y : Value) (X Y : Int) (L : Nat) (w : World) (hx : BigV w x X) (hy : BigV w y Y) (bx : X.natAbs < pw L) (bY : Y.natAbs < pw L) (hL : L ≤ 1099511627776) :
    Calls Tryz.prog 63 #[x, y] w (BigPost w (X * Y)) := by
  obtain ⟨s1, n1, rfl, hd1, ht1⟩ := hx
  obtain ⟨s2, n2, rfl, hd2, ht2⟩ := hy
  have l1 := ht1.le bx
  have l2 := ht2.le bY
  go_enter Tryz.func63, Tryz.ntmps63
  go_wp2_with fail
  obtain ⟨B0, B1, B2, hE0⟩ := boxes3 w 56 #[.bool (decide (X < 0)), s1] #[.bool (decide (Y < 0)), s2] #[.bool false, .slice none 0 0]
  generalize (((w.alloc (.cells #[.bool (decide (X < 0)), s1] 56)).alloc (.cells #[.bool (decide (Y < 0)), s2] 56)).alloc (.cells #[.bool false, .slice none 0 0] 56)) = W0 at *
  have k00 := KE.c0 (w := w) B0 (show w.heap.size ∉ [w.heap.size + 1 + 1] by simp; omega)
  have k01 := KE.c1 (w := w) B0 (show w.heap.size ∉ [w.heap.size + 1 + 1] by simp; omega)
  have k10 := KE.c0 (w := w) B1 (show w.heap.size + 1 ∉ [w.heap.size + 1 + 1] by simp)
  have k11 := KE.c1 (w := w) B1 (show w.heap.size + 1 ∉ [w.heap.size + 1 + 1] by simp)
  have ks := KE.start (R := [w.heap.size + 1 + 1]) hE0 (by simp; omega)
  go_region_held3 (fun w' => KE [w.heap.size + 1 + 1] w W0 w') ((repeat (first | assumption | apply KE.drew | apply KE.drewN | (refine KE.set ?_ (by simp) _) | (refine KE.step ?_ (by assumption))))) (first | (go_at_call 91; refine (product_any _ _ _ _ _ _ _ (hd1.ext (KE.ext (by assumption))) (hd2.ext (KE.ext (by assumption))) (by omega)).mono ?_; rintro e w1 ⟨v, n', rfl, hd, ht, hxA⟩) | (go_at_call 79; refine (signed_any _ _ _ _ _ hd).mono ?_; rintro e w2 ⟨v2, rfl, hb2, hxB⟩; rw [sgn_mul] at hb2; obtain ⟨A3, n3, c3, rfl, hd3, ht3⟩ := hb2.form; have b2 := (B2.drew.ext hxA).ext hxB; have q0 := b2.c0; have q1 := b2.c1; have f0 := b2.frozen 0; have f1 := b2.frozen 1))
  obtain ⟨p1, p2, p3⟩ := hb2.put b2
  go_wp2_with fail
  refine bodyPost_ret (v := .agg #[.bool (decide (X * Y < 0)), .slice A3 n3 c3]) (by simp [results, Tryz.results63, go_sem, p2, p3]) rfl ?_
  exact ⟨_, rfl, p1, KE.ext (by assumption)⟩

theorem sgn_add1 {x y : Int} (h : (decide (x < 0) == decide (y < 0)) = true) : sgn (decide (x < 0)) (x.natAbs + y.natAbs) = x + y := by
  unfold sgn
  by_cases hx : x < 0 <;> by_cases hy : y < 0 <;> simp [hx, hy] at h ⊢ <;> omega
theorem sgn_add2 {x y : Int} (h : (decide (x < 0) == decide (y < 0)) = false) (hl : y.natAbs ≤ x.natAbs) : sgn (decide (x < 0)) (x.natAbs - y.natAbs) = x + y := by
  unfold sgn
  by_cases hx : x < 0 <;> by_cases hy : y < 0 <;> simp [hx, hy] at h ⊢ <;> omega
theorem sgn_add3 {x y : Int} (h : (decide (x < 0) == decide (y < 0)) = false) (hl : x.natAbs ≤ y.natAbs) : sgn (decide (y < 0)) (y.natAbs - x.natAbs) = x + y := by
  unfold sgn
  by_cases hx : x < 0 <;> by_cases hy : y < 0 <;> simp [hx, hy] at h ⊢ <;> omega
theorem cmpI_nonneg {X Y : Nat} : 0 ≤ cmpI X Y ↔ Y ≤ X := by unfold cmpI; split <;> (try split) <;> omega
theorem trm_le {n m X Y : Nat} (hX : X < pw n) (tY : Trm m Y) (h : Y ≤ X) : m ≤ n := tY.le (Nat.lt_of_le_of_lt h hX)

set_option maxHeartbeats 4000000 in
theorem Add_any (x y : Value) (X Y : Int) (L : Nat) (w : World) (hx : BigV w x X) (hy : BigV w y Y) (bx : X.natAbs < pw L) (bY : Y.natAbs < pw L) (hL : L ≤ 1099511627776) :
    Calls Tryz.prog 80 #[x, y] w (BigPost w (X + Y)) := by
  obtain ⟨s1, n1, rfl, hd1, ht1⟩ := hx
  obtain ⟨s2, n2, rfl, hd2, ht2⟩ := hy
  have l1 := ht1.le bx
  have l2 := ht2.le bY
  by_cases hs : (decide (X < 0) == decide (Y < 0)) = true
  · have HS := Lib.hid hs
    go_enter Tryz.func80, Tryz.ntmps80
    go_wp2_with fail
    obtain ⟨B0, B1, B2, hE0⟩ := boxes3 w 56 #[.bool (decide (X < 0)), s1] #[.bool (decide (Y < 0)), s2] #[.bool false, .slice none 0 0]
    generalize (((w.alloc (.cells #[.bool (decide (X < 0)), s1] 56)).alloc (.cells #[.bool (decide (Y < 0)), s2] 56)).alloc (.cells #[.bool false, .slice none 0 0] 56)) = W0 at *
    have k00 := KE.c0 (w := w) B0 (show w.heap.size ∉ [w.heap.size + 1 + 1] by simp; omega)
    have k01 := KE.c1 (w := w) B0 (show w.heap.size ∉ [w.heap.size + 1 + 1] by simp; omega)
    have k10 := KE.c0 (w := w) B1 (show w.heap.size + 1 ∉ [w.heap.size + 1 + 1] by simp)
    have k11 := KE.c1 (w := w) B1 (show w.heap.size + 1 ∉ [w.heap.size + 1 + 1] by simp)
    have ks := KE.start (R := [w.heap.size + 1 + 1]) hE0 (by simp; omega)
    go_region_held3 (fun w' => KE [w.heap.size + 1 + 1] w W0 w') ((repeat (first | assumption | apply KE.drew | apply KE.drewN | (refine KE.set ?_ (by simp) _) | (refine KE.step ?_ (by assumption))))) (first | (go_at_call 106; refine (sum_any _ _ _ _ _ _ _ (hd1.ext (KE.ext (by assumption))) (hd2.ext (KE.ext (by assumption))) (by omega) (by omega)).mono ?_; rintro e w1 ⟨v, n', rfl, hd, ht, hxA⟩) | (go_at_call 79; refine (signed_any _ _ _ _ _ hd).mono ?_; rintro e w2 ⟨v2, rfl, hb2, hxB⟩; rw [sgn_add1 HS.out] at hb2; obtain ⟨A3, n3, c3, rfl, hd3, ht3⟩ := hb2.form; have b2 := (B2.drew.ext hxA).ext hxB; have q0 := b2.c0; have q1 := b2.c1; have f0 := b2.frozen 0; have f1 := b2.frozen 1))
    obtain ⟨p1, p2, p3⟩ := hb2.put b2
    go_wp2_with fail
    refine bodyPost_ret (v := .agg #[.bool (decide (X + Y < 0)), .slice A3 n3 c3]) (by simp [results, Tryz.results80, go_sem, p2, p3]) rfl ?_
    exact ⟨_, rfl, p1, KE.ext (by assumption)⟩
  · have hs : (decide (X < 0) == decide (Y < 0)) = false := by simpa using hs
    have HS := Lib.hid hs
    by_cases hle : Y.natAbs ≤ X.natAbs
    · have hc := cmpI_nonneg.2 hle
      have hmn := trm_le (show X.natAbs < pw n1 by obtain ⟨_, _, _, _, _, h, _⟩ := hd1; exact h) ht2 hle
      go_enter Tryz.func80, Tryz.ntmps80
      go_wp2_with fail
      obtain ⟨B0, B1, B2, hE0⟩ := boxes3 w 56 #[.bool (decide (X < 0)), s1] #[.bool (decide (Y < 0)), s2] #[.bool false, .slice none 0 0]
      generalize (((w.alloc (.cells #[.bool (decide (X < 0)), s1] 56)).alloc (.cells #[.bool (decide (Y < 0)), s2] 56)).alloc (.cells #[.bool false, .slice none 0 0] 56)) = W0 at *
      have k00 := KE.c0 (w := w) B0 (show w.heap.size ∉ [w.heap.size + 1 + 1] by simp; omega)
      have k01 := KE.c1 (w := w) B0 (show w.heap.size ∉ [w.heap.size + 1 + 1] by simp; omega)
      have k10 := KE.c0 (w := w) B1 (show w.heap.size + 1 ∉ [w.heap.size + 1 + 1] by simp)
      have k11 := KE.c1 (w := w) B1 (show w.heap.size + 1 ∉ [w.heap.size + 1 + 1] by simp)
      have ks := KE.start (R := [w.heap.size + 1 + 1]) hE0 (by simp; omega)
      refine (compare_any _ _ _ _ _ _ _ (hd1.ext hE0) (hd2.ext hE0) ht1 ht2).mono ?_
      rintro e w1 ⟨rfl, d, rfl⟩
      have ks1 := ks.drewN d
      obtain ⟨q, hq⟩ : ∃ q, q = cmpI X.natAbs Y.natAbs := ⟨_, rfl⟩
      rw [← hq] at hc ⊢
      clear hq
      go_wp2_with fail
      go_region_held3 (fun w' => KE [w.heap.size + 1 + 1] w W0 w') ((repeat (first | assumption | apply KE.drew | apply KE.drewN | (refine KE.set ?_ (by simp) _) | (refine KE.step ?_ (by assumption))))) (first | (go_at_call 107; refine (difference_any _ _ _ _ _ _ _ (hd1.ext (KE.ext (by assumption))) (hd2.ext (KE.ext (by assumption))) hmn hle).mono ?_; rintro e w1 ⟨v, n', rfl, hd, ht, hxA⟩) | (go_at_call 79; refine (signed_any _ _ _ _ _ hd).mono ?_; rintro e w2 ⟨v2, rfl, hb2, hxB⟩; rw [sgn_add2 HS.out hle] at hb2; obtain ⟨A3, n3, c3, rfl, hd3, ht3⟩ := hb2.form; have b2 := ((B2.drewN d).drew.ext hxA).ext hxB; have q0 := b2.c0; have q1 := b2.c1; have f0 := b2.frozen 0; have f1 := b2.frozen 1))
      obtain ⟨p1, p2, p3⟩ := hb2.put b2
      go_wp2_with fail
      refine bodyPost_ret (v := .agg #[.bool (decide (X + Y < 0)), .slice A3 n3 c3]) (by simp [results, Tryz.results80, go_sem, p2, p3]) rfl ?_
      exact ⟨_, rfl, p1, KE.ext (by assumption)⟩
    · have hle' : X.natAbs ≤ Y.natAbs := by omega
      have hc : cmpI X.natAbs Y.natAbs < 0 := Int.not_le.1 fun h => hle (cmpI_nonneg.1 h)
      have hmn := trm_le (show Y.natAbs < pw n2 by obtain ⟨_, _, _, _, _, h, _⟩ := hd2; exact h) ht1 hle'
      go_enter Tryz.func80, Tryz.ntmps80
      go_wp2_with fail
      obtain ⟨B0, B1, B2, hE0⟩ := boxes3 w 56 #[.bool (decide (X < 0)), s1] #[.bool (decide (Y < 0)), s2] #[.bool false, .slice none 0 0]
      generalize (((w.alloc (.cells #[.bool (decide (X < 0)), s1] 56)).alloc (.cells #[.bool (decide (Y < 0)), s2] 56)).alloc (.cells #[.bool false, .slice none 0 0] 56)) = W0 at *
      have k00 := KE.c0 (w := w) B0 (show w.heap.size ∉ [w.heap.size + 1 + 1] by simp; omega)
      have k01 := KE.c1 (w := w) B0 (show w.heap.size ∉ [w.heap.size + 1 + 1] by simp; omega)
      have k10 := KE.c0 (w := w) B1 (show w.heap.size + 1 ∉ [w.heap.size + 1 + 1] by simp)
      have k11 := KE.c1 (w := w) B1 (show w.heap.size + 1 ∉ [w.heap.size + 1 + 1] by simp)
      have ks := KE.start (R := [w.heap.size + 1 + 1]) hE0 (by simp; omega)
      refine (compare_any _ _ _ _ _ _ _ (hd1.ext hE0) (hd2.ext hE0) ht1 ht2).mono ?_
      rintro e w1 ⟨rfl, d, rfl⟩
      have ks1 := ks.drewN d
      obtain ⟨q, hq⟩ : ∃ q, q = cmpI X.natAbs Y.natAbs := ⟨_, rfl⟩
      rw [← hq] at hc ⊢
      clear hq
      go_wp2_with fail
      go_region_held3 (fun w' => KE [w.heap.size + 1 + 1] w W0 w') ((repeat (first | assumption | apply KE.drew | apply KE.drewN | (refine KE.set ?_ (by simp) _) | (refine KE.step ?_ (by assumption))))) (first | (go_at_call 107; refine (difference_any _ _ _ _ _ _ _ (hd2.ext (KE.ext (by assumption))) (hd1.ext (KE.ext (by assumption))) hmn hle').mono ?_; rintro e w1 ⟨v, n', rfl, hd, ht, hxA⟩) | (go_at_call 79; refine (signed_any _ _ _ _ _ hd).mono ?_; rintro e w2 ⟨v2, rfl, hb2, hxB⟩; rw [sgn_add3 HS.out hle'] at hb2; obtain ⟨A3, n3, c3, rfl, hd3, ht3⟩ := hb2.form; have b2 := ((B2.drewN d).drew.ext hxA).ext hxB; have q0 := b2.c0; have q1 := b2.c1; have f0 := b2.frozen 0; have f1 := b2.frozen 1))
      obtain ⟨p1, p2, p3⟩ := hb2.put b2
      go_wp2_with fail
      refine bodyPost_ret (v := .agg #[.bool (decide (X + Y < 0)), .slice A3 n3 c3]) (by simp [results, Tryz.results80, go_sem, p2, p3]) rfl ?_
      exact ⟨_, rfl, p1, KE.ext (by assumption)⟩

end Go.Proofs.YtljncdcjkdgkeaaGreatDoor.Big

namespace Go.Proofs.YtljncdcjkdgkeaaGreatDoor.Big
open Go.RowKit
attribute [local go_sem ↓] Go.wp_at_zero Go.wp_at_succ

def IntPost (w : World) (z : Int) (e : Ending) (w' : World) : Prop := e = .returned (.int .i64 z) ∧ Ext w w'

set_option maxHeartbeats 1000000 in
theorem Sign_any (x : Value) (X : Int) (w : World) (hx : BigV w x X) : Calls Tryz.prog 77 #[x] w (IntPost w X.sign) := by
  obtain ⟨A, n, c, rfl, hd, ht⟩ := hx.form
  obtain ⟨-, h1, h2, hV, -⟩ := hd.inj
  have hp := ht.pos_iff hV
  rcases Int.lt_trichotomy X 0 with h | h | h
  · have hn : ((n : Int) == 0) = false := by simp; omega
    have e1 : decide (X < 0) = true := by simpa using h
    have HE := Lib.hid (Int.sign_eq_neg_one_of_neg h)
    clear hp
    go_enter Tryz.func77, Tryz.ntmps77
    go_wp2
    go_ret
    exact ⟨by rw [HE.out]; rfl, (Ext.refl w).alloc _⟩
  · subst h
    obtain rfl : n = 0 := by simp at hp; exact hp
    go_enter Tryz.func77, Tryz.ntmps77
    go_wp2
    go_ret
    exact ⟨rfl, (Ext.refl w).alloc _⟩
  · have hn : ((n : Int) == 0) = false := by simp; omega
    have e1 : decide (X < 0) = false := by simp; omega
    have HE := Lib.hid (Int.sign_eq_one_of_pos h)
    clear hp
    go_enter Tryz.func77, Tryz.ntmps77
    go_wp2
    go_ret
    exact ⟨by rw [HE.out]; rfl, (Ext.refl w).alloc _⟩

theorem sgn_neg' (x : Int) : sgn (!decide (x < 0)) x.natAbs = -x := by
  unfold sgn; by_cases h : x < 0 <;> simp [h] <;> omega

set_option maxHeartbeats 1000000 in
theorem Neg_any (x : Value) (X : Int) (w : World) (hx : BigV w x X) : Calls Tryz.prog 89 #[x] w (BigPost w (-X)) := by
  obtain ⟨A, n, c, rfl, hd, ht⟩ := hx.form
  obtain ⟨Z, hZ⟩ : ∃ Z, Z = -X := ⟨_, rfl⟩
  rw [← hZ]
  have HZ := Lib.hid hZ
  clear hZ
  go_enter Tryz.func89, Tryz.ntmps89
  go_wp2_with fail
  obtain ⟨B0, B1, hE0⟩ := boxes2 w 56 #[.bool (decide (X < 0)), .slice A n c] #[.bool false, .slice none 0 0]
  refine (signed_any _ _ _ _ _ (hd.ext hE0)).mono ?_
  rintro e w2 ⟨v2, rfl, hb2, hxB⟩
  rw [sgn_neg', ← HZ.out] at hb2
  obtain ⟨A3, n3, c3, rfl, hd3, ht3⟩ := hb2.form
  have b2 := B1.ext hxB
  have q0 := b2.c0
  have q1 := b2.c1
  have f0 := b2.frozen 0
  have f1 := b2.frozen 1
  go_wp2_with fail
  obtain ⟨p1, p2, p3⟩ := hb2.put b2
  refine bodyPost_ret (v := .agg #[.bool (decide (Z < 0)), .slice A3 n3 c3]) (by simp [results, Tryz.results89, go_sem, p2, p3]) rfl ?_
  exact ⟨_, rfl, p1, ((hE0.trans hxB).set (by simp) _).set (by simp) _⟩

def cmpZ (x y : Int) : Int := if x < y then -1 else if y < x then 1 else 0
theorem cmpZ_same1 {x y : Int} (hx : x < 0) (hy : y < 0) : cmpI y.natAbs x.natAbs = cmpZ x y := by
  unfold cmpI cmpZ; split <;> split <;> (try split) <;> (try split) <;> omega
theorem cmpZ_same2 {x y : Int} (hx : 0 ≤ x) (hy : 0 ≤ y) : cmpI x.natAbs y.natAbs = cmpZ x y := by
  unfold cmpI cmpZ; split <;> split <;> (try split) <;> (try split) <;> omega
theorem sign_cases (x : Int) : x < 0 ∧ x.sign = -1 ∨ x = 0 ∧ x.sign = 0 ∨ 0 < x ∧ x.sign = 1 := by
  rcases Int.lt_trichotomy x 0 with h | h | h
  · exact .inl ⟨h, Int.sign_eq_neg_one_of_neg h⟩
  · exact .inr (.inl ⟨h, by rw [h]; rfl⟩)
  · exact .inr (.inr ⟨h, Int.sign_eq_one_of_pos h⟩)

set_option maxHeartbeats 4000000 in
set_option maxRecDepth 100000 in
theorem Cmp_any (x y : Value) (X Y : Int) (w : World) (hx : BigV w x X) (hy : BigV w y Y) : Calls Tryz.prog 45 #[x, y] w (IntPost w (cmpZ X Y)) := by
  obtain ⟨A1, n1, c1, rfl, hd1, ht1⟩ := hx.form
  obtain ⟨A2, n2, c2, rfl, hd2, ht2⟩ := hy.form
  by_cases hs : X.sign = Y.sign
  · have e1 : (X.sign != Y.sign) = false := by simpa using hs
    by_cases hn : X < 0
    · have hY : Y < 0 := by
        rcases sign_cases X with ⟨a, b⟩ | ⟨a, b⟩ | ⟨a, b⟩ <;> rcases sign_cases Y with ⟨c, d⟩ | ⟨c, d⟩ | ⟨c, d⟩ <;> omega
      have HC := Lib.hid (cmpZ_same1 hn hY)
      have HN := Lib.hid hn
      clear hs hn hY
      go_enter Tryz.func45, Tryz.ntmps45
      go_wp2_with fail
      obtain ⟨B0, B1, hE0⟩ := boxes2 w 56 #[.bool (decide (X < 0)), .slice A1 n1 c1] #[.bool (decide (Y < 0)), .slice A2 n2 c2]
      generalize ((w.alloc (.cells #[.bool (decide (X < 0)), .slice A1 n1 c1] 56)).alloc (.cells #[.bool (decide (Y < 0)), .slice A2 n2 c2] 56)) = W0 at *
      have k00 := KE.c0 (w := w) B0 (show w.heap.size ∉ [w.heap.size + 1 + 1] by simp; omega)
      have k01 := KE.c1 (w := w) B0 (show w.heap.size ∉ [w.heap.size + 1 + 1] by simp; omega)
      have k10 := KE.c0 (w := w) B1 (show w.heap.size + 1 ∉ [w.heap.size + 1 + 1] by simp)
      have k11 := KE.c1 (w := w) B1 (show w.heap.size + 1 ∉ [w.heap.size + 1 + 1] by simp)
      have ks := KE.start (R := [w.heap.size + 1 + 1]) hE0 (by simp; omega)
      go_region_held3 (fun w' => KE [w.heap.size + 1 + 1] w W0 w') ((repeat (first | assumption | apply KE.drew | apply KE.drewN | (refine KE.set ?_ (by simp) _) | (refine KE.step ?_ (by assumption))))) (first | (go_at_call 77; (with_reducible refine (Sign_any _ _ _ (hx.ext (KE.ext (by assumption)))).mono ?_); rintro e w1 ⟨rfl, hxA⟩) | (go_at_call 77; (with_reducible refine (Sign_any _ _ _ (hy.ext (KE.ext (by assumption)))).mono ?_); rintro e w2 ⟨rfl, hxB⟩))
      have e2 : decide (X < 0) = true := by simpa using HN.out
      go_wp2_with fail
      refine (compare_any _ _ _ _ _ _ _ (hd2.ext (KE.ext (by assumption))) (hd1.ext (KE.ext (by assumption))) ht2 ht1).mono ?_
      rintro e w3 ⟨rfl, d, rfl⟩
      rw [HC.out]
      go_wp2_with fail
      go_ret
      exact ⟨rfl, Ext.drewN (KE.ext (R := [w.heap.size + 1 + 1]) (W0 := W0) (by assumption)) _⟩
    · have hX : 0 ≤ X := by omega
      have hY : 0 ≤ Y := by
        rcases sign_cases X with ⟨a, b⟩ | ⟨a, b⟩ | ⟨a, b⟩ <;> rcases sign_cases Y with ⟨c, d⟩ | ⟨c, d⟩ | ⟨c, d⟩ <;> omega
      have HC := Lib.hid (cmpZ_same2 hX hY)
      have HN := Lib.hid hn
      clear hs hn hX hY
      go_enter Tryz.func45, Tryz.ntmps45
      go_wp2_with fail
      obtain ⟨B0, B1, hE0⟩ := boxes2 w 56 #[.bool (decide (X < 0)), .slice A1 n1 c1] #[.bool (decide (Y < 0)), .slice A2 n2 c2]
      generalize ((w.alloc (.cells #[.bool (decide (X < 0)), .slice A1 n1 c1] 56)).alloc (.cells #[.bool (decide (Y < 0)), .slice A2 n2 c2] 56)) = W0 at *
      have k00 := KE.c0 (w := w) B0 (show w.heap.size ∉ [w.heap.size + 1 + 1] by simp; omega)
      have k01 := KE.c1 (w := w) B0 (show w.heap.size ∉ [w.heap.size + 1 + 1] by simp; omega)
      have k10 := KE.c0 (w := w) B1 (show w.heap.size + 1 ∉ [w.heap.size + 1 + 1] by simp)
      have k11 := KE.c1 (w := w) B1 (show w.heap.size + 1 ∉ [w.heap.size + 1 + 1] by simp)
      have ks := KE.start (R := [w.heap.size + 1 + 1]) hE0 (by simp; omega)
      go_region_held3 (fun w' => KE [w.heap.size + 1 + 1] w W0 w') ((repeat (first | assumption | apply KE.drew | apply KE.drewN | (refine KE.set ?_ (by simp) _) | (refine KE.step ?_ (by assumption))))) (first | (go_at_call 77; (with_reducible refine (Sign_any _ _ _ (hx.ext (KE.ext (by assumption)))).mono ?_); rintro e w1 ⟨rfl, hxA⟩) | (go_at_call 77; (with_reducible refine (Sign_any _ _ _ (hy.ext (KE.ext (by assumption)))).mono ?_); rintro e w2 ⟨rfl, hxB⟩))
      have e2 : decide (X < 0) = false := by simpa using HN.out
      go_wp2_with fail
      refine (compare_any _ _ _ _ _ _ _ (hd1.ext (KE.ext (by assumption))) (hd2.ext (KE.ext (by assumption))) ht1 ht2).mono ?_
      rintro e w3 ⟨rfl, d, rfl⟩
      rw [HC.out]
      go_wp2_with fail
      go_ret
      exact ⟨rfl, Ext.drewN (KE.ext (R := [w.heap.size + 1 + 1]) (W0 := W0) (by assumption)) _⟩
  · have e1 : (X.sign != Y.sign) = true := by simpa using hs
    by_cases hlt : X.sign < Y.sign
    · have e2 : decide (X.sign < Y.sign) = true := by simpa using hlt
      have hc : cmpZ X Y = -1 := by
        unfold cmpZ
        rcases sign_cases X with ⟨a, b⟩ | ⟨a, b⟩ | ⟨a, b⟩ <;> rcases sign_cases Y with ⟨c, d⟩ | ⟨c, d⟩ | ⟨c, d⟩ <;> (try rw [if_pos (by omega)]) <;> omega
      have HC := Lib.hid hc
      clear hc hs hlt
      go_enter Tryz.func45, Tryz.ntmps45
      go_wp2_with fail
      obtain ⟨B0, B1, hE0⟩ := boxes2 w 56 #[.bool (decide (X < 0)), .slice A1 n1 c1] #[.bool (decide (Y < 0)), .slice A2 n2 c2]
      generalize ((w.alloc (.cells #[.bool (decide (X < 0)), .slice A1 n1 c1] 56)).alloc (.cells #[.bool (decide (Y < 0)), .slice A2 n2 c2] 56)) = W0 at *
      have k00 := KE.c0 (w := w) B0 (show w.heap.size ∉ [w.heap.size + 1 + 1] by simp; omega)
      have k01 := KE.c1 (w := w) B0 (show w.heap.size ∉ [w.heap.size + 1 + 1] by simp; omega)
      have k10 := KE.c0 (w := w) B1 (show w.heap.size + 1 ∉ [w.heap.size + 1 + 1] by simp)
      have k11 := KE.c1 (w := w) B1 (show w.heap.size + 1 ∉ [w.heap.size + 1 + 1] by simp)
      have ks := KE.start (R := [w.heap.size + 1 + 1]) hE0 (by simp; omega)
      go_region_held3 (fun w' => KE [w.heap.size + 1 + 1] w W0 w') ((repeat (first | assumption | apply KE.drew | apply KE.drewN | (refine KE.set ?_ (by simp) _) | (refine KE.step ?_ (by assumption))))) (first | (go_at_call 77; (with_reducible refine (Sign_any _ _ _ (hx.ext (KE.ext (by assumption)))).mono ?_); rintro e w1 ⟨rfl, hxA⟩) | (go_at_call 77; (with_reducible refine (Sign_any _ _ _ (hy.ext (KE.ext (by assumption)))).mono ?_); rintro e w2 ⟨rfl, hxB⟩))
      go_wp2_with fail
      clear hxA hxB
      go_region_held3 (fun w' => KE [w.heap.size + 1 + 1] w W0 w') ((repeat (first | assumption | apply KE.drew | apply KE.drewN | (refine KE.set ?_ (by simp) _) | (refine KE.step ?_ (by assumption))))) (first | (go_at_call 77; (with_reducible refine (Sign_any _ _ _ (hx.ext (KE.ext (by assumption)))).mono ?_); rintro e w1 ⟨rfl, hxA⟩) | (go_at_call 77; (with_reducible refine (Sign_any _ _ _ (hy.ext (KE.ext (by assumption)))).mono ?_); rintro e w2 ⟨rfl, hxB⟩))
      go_wp2_with fail
      go_ret
      exact ⟨by rw [HC.out]; rfl, KE.ext (R := [w.heap.size + 1 + 1]) (W0 := W0) (by assumption)⟩
    · have e2 : decide (X.sign < Y.sign) = false := by simpa using hlt
      have hc : cmpZ X Y = 1 := by
        unfold cmpZ
        rcases sign_cases X with ⟨a, b⟩ | ⟨a, b⟩ | ⟨a, b⟩ <;> rcases sign_cases Y with ⟨c, d⟩ | ⟨c, d⟩ | ⟨c, d⟩ <;> (try rw [if_neg (by omega), if_pos (by omega)]) <;> omega
      have HC := Lib.hid hc
      clear hc hs hlt
      go_enter Tryz.func45, Tryz.ntmps45
      go_wp2_with fail
      obtain ⟨B0, B1, hE0⟩ := boxes2 w 56 #[.bool (decide (X < 0)), .slice A1 n1 c1] #[.bool (decide (Y < 0)), .slice A2 n2 c2]
      generalize ((w.alloc (.cells #[.bool (decide (X < 0)), .slice A1 n1 c1] 56)).alloc (.cells #[.bool (decide (Y < 0)), .slice A2 n2 c2] 56)) = W0 at *
      have k00 := KE.c0 (w := w) B0 (show w.heap.size ∉ [w.heap.size + 1 + 1] by simp; omega)
      have k01 := KE.c1 (w := w) B0 (show w.heap.size ∉ [w.heap.size + 1 + 1] by simp; omega)
      have k10 := KE.c0 (w := w) B1 (show w.heap.size + 1 ∉ [w.heap.size + 1 + 1] by simp)
      have k11 := KE.c1 (w := w) B1 (show w.heap.size + 1 ∉ [w.heap.size + 1 + 1] by simp)
      have ks := KE.start (R := [w.heap.size + 1 + 1]) hE0 (by simp; omega)
      go_region_held3 (fun w' => KE [w.heap.size + 1 + 1] w W0 w') ((repeat (first | assumption | apply KE.drew | apply KE.drewN | (refine KE.set ?_ (by simp) _) | (refine KE.step ?_ (by assumption))))) (first | (go_at_call 77; (with_reducible refine (Sign_any _ _ _ (hx.ext (KE.ext (by assumption)))).mono ?_); rintro e w1 ⟨rfl, hxA⟩) | (go_at_call 77; (with_reducible refine (Sign_any _ _ _ (hy.ext (KE.ext (by assumption)))).mono ?_); rintro e w2 ⟨rfl, hxB⟩))
      go_wp2_with fail
      clear hxA hxB
      go_region_held3 (fun w' => KE [w.heap.size + 1 + 1] w W0 w') ((repeat (first | assumption | apply KE.drew | apply KE.drewN | (refine KE.set ?_ (by simp) _) | (refine KE.step ?_ (by assumption))))) (first | (go_at_call 77; (with_reducible refine (Sign_any _ _ _ (hx.ext (KE.ext (by assumption)))).mono ?_); rintro e w1 ⟨rfl, hxA⟩) | (go_at_call 77; (with_reducible refine (Sign_any _ _ _ (hy.ext (KE.ext (by assumption)))).mono ?_); rintro e w2 ⟨rfl, hxB⟩))
      go_wp2_with fail
      go_ret
      exact ⟨by rw [HC.out]; rfl, KE.ext (R := [w.heap.size + 1 + 1]) (W0 := W0) (by assumption)⟩

end Go.Proofs.YtljncdcjkdgkeaaGreatDoor.Big

namespace Go.Proofs.YtljncdcjkdgkeaaGreatDoor.Big
open Go.RowKit
attribute [local go_sem ↓] Go.wp_at_zero Go.wp_at_succ

theorem two_digits {a : Nat} (h : a < 18446744073709551616) : a < pw 2 ∧ dgt a 0 = a % 4294967296 ∧ dgt a 1 = a / 4294967296 := by
  refine ⟨h, ?_, ?_⟩
  · unfold dgt; rw [pw_zero, Nat.div_one]
  · unfold dgt; rw [pw_one]; omega
theorem Dig.two (w : World) (E : TypeId) {a : Nat} (h : a < 18446744073709551616) {lo hi : Int} (hlo : lo = (a % 4294967296 : Nat)) (hhi : hi = (a / 4294967296 : Nat)) :
    Dig (w.alloc (.cells #[.int .u32 lo, .int .u32 hi] E)) (.slice (some ⟨w.heap.size, 0, none⟩) 2 2) 2 a := by
  obtain ⟨h1, h2, h3⟩ := two_digits h
  refine ⟨_, 2, rfl, by omega, by omega, h1, fun _ => ⟨_, 0, rfl, fun j hj => ?_⟩⟩
  rw [cell_of_row _ _ _ _ _ _ (heap_alloc_new w _)]
  match j, hj with
  | 0, _ => rw [h2, hlo]; rfl
  | 1, _ => rw [h3, hhi]; rfl

set_option maxHeartbeats 1000000 in
theorem Of_any (n : Int) (w : World) (h0 : -9223372036854775808 ≤ n) (h1 : n ≤ 9223372036854775807) : Calls Tryz.prog 46 #[.int .i64 n] w (BigPost w n) := by
  by_cases hn : n < 0
  · have e1 : IntKind.u64.wrap (-IntKind.u64.wrap n) = (n.natAbs : Int) := by rw [IntKind.wrap_u64, IntKind.wrap_u64]; omega
    have ha : n.natAbs < 18446744073709551616 := by omega
    have HS := Lib.hid (show sgn true n.natAbs = n by unfold sgn; simp; omega)
    go_enter Tryz.func46, Tryz.ntmps46
    go_wp2_with fail
    have hD := Dig.two (w.alloc (.cells #[.bool false, .slice none 0 0] 56)) 147 ha (lo := (n.natAbs : Int) % 4294967296) (hi := (n.natAbs : Int) / 4294967296) (by omega) (by omega)
    rw [show (w.alloc (.cells #[.bool false, .slice none 0 0] 56)).heap.size = w.heap.size + 1 by simp] at hD
    have B1 := (Box.new w 56 #[.bool false, .slice none 0 0]).alloc (.cells #[.int .u32 ((n.natAbs : Int) % 4294967296), .int .u32 ((n.natAbs : Int) / 4294967296)] 147)
    refine (signed_any _ _ _ _ _ hD).mono ?_
    rintro e w2 ⟨v2, rfl, hb2, hxB⟩
    rw [HS.out] at hb2
    have HT : decide (n < 0) = true := by simpa using hn
    have HB := hb2
    have hE : Ext w w2 := (((Ext.refl w).alloc _).alloc _).trans hxB
    obtain ⟨A3, n3, c3, rfl, hd3, ht3⟩ := hb2.form
    rw [HT] at hb2 ⊢
    clear HT HB
    have b2 := B1.ext hxB
    have q0 := b2.c0
    have q1 := b2.c1
    have f0 := b2.frozen 0
    have f1 := b2.frozen 1
    clear hD
    go_wp2_with fail
    obtain ⟨p1, p2, p3⟩ := hb2.put b2
    refine bodyPost_ret (v := .agg #[.bool true, .slice A3 n3 c3]) (by simp [results, Tryz.results46, go_sem, p2, p3]) rfl ?_
    exact ⟨_, rfl, p1, (hE.set (by simp) _).set (by simp) _⟩
  · have e1 : IntKind.u64.wrap n = (n.natAbs : Int) := by rw [IntKind.wrap_u64]; omega
    have ha : n.natAbs < 18446744073709551616 := by omega
    have HS := Lib.hid (show sgn false n.natAbs = n by unfold sgn; simp; omega)
    go_enter Tryz.func46, Tryz.ntmps46
    go_wp2_with fail
    have hD := Dig.two (w.alloc (.cells #[.bool false, .slice none 0 0] 56)) 147 ha (lo := (n.natAbs : Int) % 4294967296) (hi := (n.natAbs : Int) / 4294967296) (by omega) (by omega)
    rw [show (w.alloc (.cells #[.bool false, .slice none 0 0] 56)).heap.size = w.heap.size + 1 by simp] at hD
    have B1 := (Box.new w 56 #[.bool false, .slice none 0 0]).alloc (.cells #[.int .u32 ((n.natAbs : Int) % 4294967296), .int .u32 ((n.natAbs : Int) / 4294967296)] 147)
    refine (signed_any _ _ _ _ _ hD).mono ?_
    rintro e w2 ⟨v2, rfl, hb2, hxB⟩
    rw [HS.out] at hb2
    have HT : decide (n < 0) = false := by simpa using hn
    have HB := hb2
    have hE : Ext w w2 := (((Ext.refl w).alloc _).alloc _).trans hxB
    obtain ⟨A3, n3, c3, rfl, hd3, ht3⟩ := hb2.form
    rw [HT] at hb2 ⊢
    clear HT HB
    have b2 := B1.ext hxB
    have q0 := b2.c0
    have q1 := b2.c1
    have f0 := b2.frozen 0
    have f1 := b2.frozen 1
    clear hD
    go_wp2_with fail
    obtain ⟨p1, p2, p3⟩ := hb2.put b2
    refine bodyPost_ret (v := .agg #[.bool false, .slice A3 n3 c3]) (by simp [results, Tryz.results46, go_sem, p2, p3]) rfl ?_
    exact ⟨_, rfl, p1, (hE.set (by simp) _).set (by simp) _⟩

end Go.Proofs.YtljncdcjkdgkeaaGreatDoor.Big

namespace Go.Proofs.YtljncdcjkdgkeaaGreatDoor.Big
open Go.RowKit
attribute [local go_sem ↓] Go.wp_at_zero Go.wp_at_succ

theorem sgn_tdiv (x y : Int) : sgn (!(decide (x < 0) == decide (y < 0))) (x.natAbs / y.natAbs) = x.tdiv y := by
  unfold sgn
  rcases abs_cases x with ⟨ex, hx⟩ | ⟨ex, hx⟩ <;> rcases abs_cases y with ⟨ey, hy⟩ | ⟨ey, hy⟩ <;> simp only [hx, hy] <;> simp
  · conv => rhs; rw [ex, ey]
    exact (Int.ofNat_tdiv _ _).symm
  · conv => rhs; rw [ex, ey]
    rw [Int.tdiv_neg, ← Int.ofNat_tdiv]; rfl
  · conv => rhs; rw [ex, ey]
    rw [Int.neg_tdiv, ← Int.ofNat_tdiv]; rfl
  · conv => rhs; rw [ex, ey]
    rw [Int.neg_tdiv, Int.tdiv_neg, Int.neg_neg, ← Int.ofNat_tdiv]; rfl
theorem sgn_tmod (x y : Int) : sgn (decide (x < 0)) (x.natAbs % y.natAbs) = x.tmod y := by
  unfold sgn
  rcases abs_cases x with ⟨ex, hx⟩ | ⟨ex, hx⟩ <;> rcases abs_cases y with ⟨ey, hy⟩ | ⟨ey, hy⟩ <;> simp only [hx] <;> simp
  · conv => rhs; rw [ex, ey]
    exact (Int.ofNat_tmod _ _).symm
  · conv => rhs; rw [ex, ey]
    rw [Int.tmod_neg, ← Int.ofNat_tmod]; rfl
  · conv => rhs; rw [ex, ey]
    rw [Int.neg_tmod, ← Int.ofNat_tmod]; rfl
  · conv => rhs; rw [ex, ey]
    rw [Int.neg_tmod, Int.tmod_neg, ← Int.ofNat_tmod]; rfl

theorem BigV.far {w : World} {b : Nat} {E : TypeId} {x y v : Value} {z : Int} (h : BigV w v z) (hb : Box w b E #[x, y]) (hx : notInt x = true) (hy : notInt y = true) (i : Nat) (u : Value) : BigV (w.setCell ⟨b, i, none⟩ u) v z := by
  obtain ⟨s, n, rfl, h1, h2⟩ := h
  exact ⟨s, n, rfl, h1.far hb hx hy i u, h2⟩
theorem BigV.put2 {w : World} {b c : Nat} {E : TypeId} {p q p' q' : Bool} {A A0 A' A0' : Option Addr} {n k n0 k0 n' k' n0' k0' : Nat} {z z' : Int} (hne : b ≠ c)
    (h : BigV w (.agg #[.bool p, .slice A n k]) z) (h' : BigV w (.agg #[.bool p', .slice A' n' k']) z') (hb : Box w b E #[.bool q, .slice A0 n0 k0]) (hc : Box w c E #[.bool q', .slice A0' n0' k0']) :
    ∃ w', w' = ((((w.setCell ⟨b, 0, none⟩ (.bool p)).setCell ⟨b, 1, none⟩ (.slice A n k)).setCell ⟨c, 0, none⟩ (.bool p')).setCell ⟨c, 1, none⟩ (.slice A' n' k')) ∧
      BigV w' (.agg #[.bool p, .slice A n k]) z ∧ BigV w' (.agg #[.bool p', .slice A' n' k']) z' ∧ w'.cell? ⟨b, 0, none⟩ = some (.bool p) ∧ w'.cell? ⟨b, 1, none⟩ = some (.slice A n k) ∧
      w'.cell? ⟨c, 0, none⟩ = some (.bool p') ∧ w'.cell? ⟨c, 1, none⟩ = some (.slice A' n' k') := by
  refine ⟨_, rfl, ?_⟩
  have hb1 : Box (w.setCell ⟨b, 0, none⟩ (.bool p)) b E #[.bool p, .slice A0 n0 k0] := hb.set 0 _
  have hb2 : Box ((w.setCell ⟨b, 0, none⟩ (.bool p)).setCell ⟨b, 1, none⟩ (.slice A n k)) b E #[.bool p, .slice A n k] := hb1.set 1 _
  have hc2 := (hc.far (p := ⟨b, 0, none⟩) (fun e => hne e.symm) (.bool p)).far (p := ⟨b, 1, none⟩) (fun e => hne e.symm) (.slice A n k)
  have hc3 : Box _ c E #[.bool p', .slice A0' n0' k0'] := hc2.set 0 (.bool p')
  have hc4 : Box _ c E #[.bool p', .slice A' n' k'] := hc3.set 1 (.slice A' n' k')
  have hb4 := (hb2.far (p := ⟨c, 0, none⟩) hne (.bool p')).far (p := ⟨c, 1, none⟩) hne (.slice A' n' k')
  exact ⟨(((h.far hb rfl rfl 0 _).far hb1 rfl rfl 1 _).far hc2 rfl rfl 0 _).far hc3 rfl rfl 1 _, (((h'.far hb rfl rfl 0 _).far hb1 rfl rfl 1 _).far hc2 rfl rfl 0 _).far hc3 rfl rfl 1 _,
    hb4.c0, hb4.c1, hc4.c0, hc4.c1⟩

def DivZPost (w : World) (X Y : Int) (e : Ending) (w' : World) : Prop := ∃ q r, e = .returned (.tuple #[q, r, .int .i64 0]) ∧ BigV w' q (X.tdiv Y) ∧ BigV w' r (X.tmod Y) ∧ Ext w w'
set_option maxHeartbeats 4000000 in
theorem Div_any (x y : Value) (X Y : Int) (L : Nat) (w : World) (hx : BigV w x X) (hy : BigV w y Y) (bx : X.natAbs < pw L) (hL : L ≤ 1099511627776) (hY : Y ≠ 0) :
    Calls Tryz.prog 85 #[x, y] w (DivZPost w X Y) := by
  obtain ⟨A1, n1, c1, rfl, hd1, ht1⟩ := hx.form
  obtain ⟨A2, n2, c2, rfl, hd2, ht2⟩ := hy.form
  have l1 := ht1.le bx
  have hn2 : ((n2 : Int) == 0) = false := by
    obtain ⟨-, -, -, hV, -⟩ := hd2.inj
    have := ht2.pos_iff hV; simp; omega
  have hY0 : 0 < Y.natAbs := by omega
  obtain ⟨Q, hQ⟩ : ∃ Q, Q = X.tdiv Y := ⟨_, rfl⟩
  obtain ⟨R, hR⟩ : ∃ R, R = X.tmod Y := ⟨_, rfl⟩
  have HQ := Lib.hid hQ
  have HR := Lib.hid hR
  clear hQ hR
  go_enter Tryz.func85, Tryz.ntmps85
  go_wp2_with fail
  obtain ⟨B0, B1, B2, B3, hE0⟩ := boxes4 w 56 #[.bool (decide (X < 0)), .slice A1 n1 c1] #[.bool (decide (Y < 0)), .slice A2 n2 c2] #[.bool false, .slice none 0 0] #[.bool false, .slice none 0 0]
  refine (divide_any Tryz.bits_LeadingZeros32 _ _ _ _ _ _ _ (hd1.ext hE0) (hd2.ext hE0) ht1 ht2 hY0 (by omega)).mono ?_
  rintro e W0 ⟨q, r, nq, nr, rfl, hdq, htq, hdr, htr, hxE⟩
  have hE1 := hE0.trans hxE
  have B0 := B0.ext hxE
  have B1 := B1.ext hxE
  have B2 := B2.ext hxE
  have B3 := B3.ext hxE
  have k00 := KE.c0 (w := w) B0 (show w.heap.size ∉ [w.heap.size + 1 + 1, w.heap.size + 1 + 1 + 1] by simp; omega)
  have k10 := KE.c0 (w := w) B1 (show w.heap.size + 1 ∉ [w.heap.size + 1 + 1, w.heap.size + 1 + 1 + 1] by simp)
  have ks := KE.start (R := [w.heap.size + 1 + 1, w.heap.size + 1 + 1 + 1]) hE1 (by simp; omega)
  go_wp2_with fail
  go_region_held3 (fun w' => KE [w.heap.size + 1 + 1, w.heap.size + 1 + 1 + 1] w W0 w') ((repeat (first | assumption | apply KE.drew | apply KE.drewN | (refine KE.set ?_ (by simp) _) | (refine KE.step ?_ (by assumption))))) (first | (go_at_call 79; (with_reducible refine (signed_any _ q _ _ _ (hdq.ext (Ext.refl _).drew)).mono ?_); rintro e w1 ⟨v1, rfl, hb1, hxA⟩; rw [sgn_tdiv, ← HQ.out] at hb1) | (go_at_call 79; (with_reducible refine (signed_any _ r _ _ _ ((hdr.ext (Ext.refl _).drew).ext hxA)).mono ?_); rintro e w2 ⟨v2, rfl, hb2, hxB⟩; rw [sgn_tmod, ← HR.out] at hb2; have hb1 := hb1.ext hxB; obtain ⟨A3, n3, c3, rfl, hd3, ht3⟩ := hb1.form; obtain ⟨A4, n4, c4, rfl, hd4, ht4⟩ := hb2.form; have b2 := (B2.drew.ext hxA).ext hxB; have q0 := b2.c0; have q1 := b2.c1; have f0 := b2.frozen 0; have f1 := b2.frozen 1; have b3 := (B3.drew.ext hxA).ext hxB; have r0 := b3.c0; have r1 := b3.c1; have g0 := b3.frozen 0; have g1 := b3.frozen 1))
  obtain ⟨w3, hw3, p1, p2, u1, u2, u3, u4⟩ := BigV.put2 (by omega) hb1 hb2 b2 b3
  have hfin : Ext w w3 := by rw [hw3]; exact KE.ext (R := [w.heap.size + 1 + 1, w.heap.size + 1 + 1 + 1]) (W0 := W0) (by assumption)
  go_wp2_with fail
  rw [← hw3]
  refine bodyPost_ret (v := .tuple #[.agg #[.bool (decide (Q < 0)), .slice A3 n3 c3], .agg #[.bool (decide (R < 0)), .slice A4 n4 c4], .int .i64 0]) (by simp [results, Tryz.results85, go_sem, u1, u2, u3, u4]) rfl ?_
  exact ⟨_, _, rfl, by rw [← HQ.out]; exact p1, by rw [← HR.out]; exact p2, hfin⟩

set_option maxHeartbeats 4000000 in
theorem Gcd_any (x y : Value) (X Y : Int) (L : Nat) (w : World) (hx : BigV w x X) (hy : BigV w y Y) (bx : X.natAbs < pw L) (bY : Y.natAbs < pw L) (hL : L ≤ 1099511627776) :
    Calls Tryz.prog 90 #[x, y] w (BigPost w (Nat.gcd X.natAbs Y.natAbs : Nat)) := by
  obtain ⟨A1, n1, c1, rfl, hd1, ht1⟩ := hx.form
  obtain ⟨A2, n2, c2, rfl, hd2, ht2⟩ := hy.form
  obtain ⟨G, hG⟩ : ∃ G, G = Nat.gcd X.natAbs Y.natAbs := ⟨_, rfl⟩
  rw [← hG]
  have HG := Lib.hid hG.symm
  clear hG
  go_enter Tryz.func90, Tryz.ntmps90
  go_wp2_with fail
  obtain ⟨B0, B1, B2, hE0⟩ := boxes3 w 56 #[.bool (decide (X < 0)), .slice A1 n1 c1] #[.bool (decide (Y < 0)), .slice A2 n2 c2] #[.bool false, .slice none 0 0]
  generalize (((w.alloc (.cells #[.bool (decide (X < 0)), .slice A1 n1 c1] 56)).alloc (.cells #[.bool (decide (Y < 0)), .slice A2 n2 c2] 56)).alloc (.cells #[.bool false, .slice none 0 0] 56)) = W0 at *
  have k00 := KE.c0 (w := w) B0 (show w.heap.size ∉ [w.heap.size + 1 + 1] by simp; omega)
  have k01 := KE.c1 (w := w) B0 (show w.heap.size ∉ [w.heap.size + 1 + 1] by simp; omega)
  have k10 := KE.c0 (w := w) B1 (show w.heap.size + 1 ∉ [w.heap.size + 1 + 1] by simp)
  have k11 := KE.c1 (w := w) B1 (show w.heap.size + 1 ∉ [w.heap.size + 1 + 1] by simp)
  have ks := KE.start (R := [w.heap.size + 1 + 1]) hE0 (by simp; omega)
  go_quiet (fail)
  go_wp2_with fail
  go_loopg [5, 6] (Y.natAbs) (fun g u v wr => ∃ (As Ct : Option Addr) (n m cs ct a b : Nat), u = .slice As n cs ∧ v = .slice Ct m ct ∧ Dig wr (.slice As n cs) n a ∧ Dig wr (.slice Ct m ct) m b ∧ Trm n a ∧ Trm m b ∧ a < pw L ∧ b < pw L ∧ Hid (Nat.gcd a b = G) ∧ b ≤ g ∧ Ext W0 wr)
  case atStart => exact ⟨A1, A2, n1, n2, c1, c2, _, _, rfl, rfl, hd1.ext (hE0.drewN _), hd2.ext (hE0.drewN _), ht1, ht2, bx, bY, HG, Nat.le_refl _, Ext.drewN_self _ _⟩
  case round =>
    obtain ⟨As, Ct, n, m, cs, ct, a, b, rfl, rfl, hda, hdb, hta, htb, ha, hb, HGab, hbg, hext⟩ := hrel
    have hm := htb.pos_iff hdb.inj.2.2.2.1
    have hn := hta.le ha
    have hm2 := htb.le hb
    by_cases h0 : 0 < m
    · have hb0 : 0 < b := hm.1 h0
      clear hm
      go_wp2_with fail
      refine (divide_any Tryz.bits_LeadingZeros32 _ _ _ _ _ _ _ hda hdb hta htb hb0 (by omega)).mono ?_
      rintro e w3 ⟨q, r, nq, nr, rfl, hdq, htq, hdr, htr, hxE⟩
      have hdr' := hdr
      obtain ⟨Ar, cr, rfl, _⟩ := hdr'
      have hlt := Nat.mod_lt a hb0
      go_wp2_with fail
      go_roundg (a % b)
      case measure => omega
      case rel => exact ⟨Ct, Ar, m, nr, ct, cr, b, a % b, rfl, rfl, hdb.ext hxE, hdr, htb, htr, hb, Nat.lt_trans hlt hb, Lib.hid (by rw [← HGab.out, Nat.gcd_comm a b, Nat.gcd_rec b a, Nat.gcd_comm]), Nat.le_refl _, hext.trans hxE⟩
    · obtain rfl : m = 0 := by omega
      have hb0 : b = 0 := by rcases Nat.eq_zero_or_pos b with h | h; exact h; exact absurd (hm.2 h) h0
      have haG : a = G := by have := HGab.out; rw [hb0, Nat.gcd_zero_right] at this; exact this
      have HA := Lib.hid haG
      clear haG hb0 hm
      go_wp2_with fail
      refine (signed_any _ _ _ _ _ hda).mono ?_
      rintro e w2 ⟨v2, rfl, hb2, hxB⟩
      rw [show sgn false a = (G : Int) by rw [HA.out]; rfl] at hb2
      obtain ⟨A3, n3, c3, rfl, hd3, ht3⟩ := hb2.form
      have HT : decide ((G : Int) < 0) = false := by simp
      rw [HT] at hb2 ⊢
      have b2 := (B2.ext hext).ext hxB
      have q0 := b2.c0
      have q1 := b2.c1
      have f0 := b2.frozen 0
      have f1 := b2.frozen 1
      go_wp2_with fail
      obtain ⟨p1, p2, p3⟩ := hb2.put b2
      refine bodyPost_ret (v := .agg #[.bool false, .slice A3 n3 c3]) (by simp [results, Tryz.results90, go_sem, p2, p3]) rfl ?_
      exact ⟨_, rfl, p1, (((hE0.trans hext).trans hxB).set (by simp; omega) _).set (by simp; omega) _⟩

end Go.Proofs.YtljncdcjkdgkeaaGreatDoor.Big

namespace Go.Proofs.YtljncdcjkdgkeaaGreatDoor.Big
open Go.RowKit

def fits (X : Int) : Bool := decide (-9223372036854775808 ≤ X) && decide (X ≤ 9223372036854775807)
theorem pw_two_eq : pw 2 = 18446744073709551616 := rfl

end Go.Proofs.YtljncdcjkdgkeaaGreatDoor.Big

namespace Go.Proofs.YtljncdcjkdgkeaaGreatDoor.Big
open Go.RowKit

def rest (l : List UInt8) : List UInt8 := Lib.trimPrefix l [45]
def negd (l : List UInt8) : Bool := Lib.hasPrefix l [45]
def digs (r : List UInt8) : Bool := r.all fun c => 48 ≤ c && c ≤ 57
def isDec (l : List UInt8) : Bool := !(rest l).isEmpty && digs (rest l) && (if (rest l).head? = some 48 then (rest l == [48]) && !negd l else true)

def cutS (s : ByteArray) : ByteArray := ⟨(rest s.data.toList).toArray⟩
theorem cutS_list (s : ByteArray) : (cutS s).data.toList = rest s.data.toList := by unfold cutS; simp
theorem rest_len (l : List UInt8) : (rest l).length ≤ l.length := by
  unfold rest Lib.trimPrefix; split <;> simp
theorem cutS_size (s : ByteArray) : (cutS s).size ≤ s.size := by
  have h1 := rest_len s.data.toList
  rw [← cutS_list] at h1
  simpa using h1
theorem cut_any (s : ByteArray) (w : World) : Calls Tryz.prog 159 #[.string s, .string ⟨#[45]⟩] w fun e w' => e = .returned (.tuple #[.string (cutS s), .bool (negd s.data.toList)]) ∧ w = w' := by
  refine (Tryz.strings_CutPrefix s ⟨#[45]⟩ w).mono ?_
  rintro e w' ⟨rfl, rfl⟩
  exact ⟨rfl, rfl⟩

theorem digs_take_succ {l : List UInt8} {k : Nat} (hk : k < l.length) : digs (l.take (k + 1)) = (digs (l.take k) && (48 ≤ l[k] && l[k] ≤ 57)) := by
  unfold digs; rw [List.take_succ_eq_append_getElem hk, List.all_append]; simp
theorem digs_false {l : List UInt8} {k : Nat} (hk : k < l.length) (h : (48 ≤ l[k] && l[k] ≤ 57) = false) : digs l = false := by
  rcases hd : digs l with _ | _
  · rfl
  · unfold digs at hd
    rw [List.all_eq_true] at hd
    have := hd _ (List.getElem_mem hk)
    rw [h] at this; cases this

set_option maxHeartbeats 1000000 in
theorem isDecimal_any (s : ByteArray) (w : World) (hs : s.size ≤ 1099511627776) : Calls Tryz.prog 158 #[.string s] w fun e w' => e = .returned (.bool (isDec s.data.toList)) ∧ w = w' := by
  have hsz := cutS_size s
  obtain ⟨r, hr⟩ : ∃ r, r = cutS s := ⟨_, rfl⟩
  have hrl : rest s.data.toList = r.data.toList := by rw [hr, cutS_list]
  obtain ⟨ng, hng⟩ : ∃ ng, ng = negd s.data.toList := ⟨_, rfl⟩
  obtain ⟨D, hDd⟩ : ∃ D, D = isDec s.data.toList := ⟨_, rfl⟩
  have hD : D = (!r.data.toList.isEmpty && digs r.data.toList && (if r.data.toList.head? = some 48 then (r.data.toList == [48]) && !ng else true)) := by rw [hDd]; unfold isDec; rw [hrl, hng]
  rw [← hDd]
  rw [← hr] at hsz
  have HR := Lib.hid hr
  have HN := Lib.hid hng
  have HD := Lib.hid hD
  have hlen : r.data.toList.length = r.size := by simp
  have HL := Lib.hid hlen
  clear hD hr hng hrl hDd hlen
  by_cases h0 : r.size = 0
  · have he : r.toList.isEmpty = true := by rw [Lib.toList_data, List.isEmpty_iff]; exact List.eq_nil_of_length_eq_zero (by rw [HL.out]; exact h0)
    have HF : Hid (D = false) := Lib.hid (by rw [HD.out, ← Lib.toList_data, he]; rfl)
    clear h0
    go_enter Tryz.func158, Tryz.ntmps158
    go_wp2_with fail
    refine (cut_any _ _).mono ?_
    rintro e w' ⟨rfl, rfl⟩
    rw [← HR.out, ← HN.out]
    go_wp2_with fail
    go_ret
    exact ⟨by rw [HF.out]; rfl, rfl⟩
  · have he : r.toList.isEmpty = false := by
      rw [Lib.toList_data, ← Bool.not_eq_true, List.isEmpty_iff]
      intro h; have := HL.out; rw [h] at this; simp at this; omega
    have HE := Lib.hid he
    go_enter Tryz.func158, Tryz.ntmps158
    go_wp2_with fail
    refine (cut_any _ _).mono ?_
    rintro e w' ⟨rfl, rfl⟩
    rw [← HR.out, ← HN.out]
    go_wp2_with fail
    clear he
    go_loop [15] (fun i => ∃ k : Nat, k ≤ r.size ∧ i = .int .i64 k ∧ Hid (digs (r.data.toList.take k) = true)) (fun i => r.size - (intOf i).toNat)
    case atStart => exact ⟨0, by omega, rfl, Lib.hid (by simp [digs])⟩
    case round =>
      obtain ⟨k, hk, rfl, HK⟩ := hrel
      by_cases hlt : k < r.size
      · have hkl : k < r.data.toList.length := by rw [HL.out]; exact hlt
        have eg : r.data.toList[k] = r[k]'hlt := rfl
        by_cases c1 : ((r[k]'hlt).toNat : Int) < 48
        · have HF : Hid (D = false) := Lib.hid (by
            rw [HD.out, digs_false hkl (by rw [eg]; simp [UInt8.le_iff_toNat_le]; omega)]; simp)
          clear hkl eg
          go_wp2_with fail
          go_ret
          exact ⟨by rw [HF.out]; rfl, rfl⟩
        · by_cases c2 : (57 : Int) < ((r[k]'hlt).toNat : Int)
          · have HF : Hid (D = false) := Lib.hid (by
              rw [HD.out, digs_false hkl (by rw [eg]; simp [UInt8.le_iff_toNat_le]; omega)]; simp)
            clear hkl eg
            go_wp2_with fail
            go_ret
            exact ⟨by rw [HF.out]; rfl, rfl⟩
          · have HS : Hid (digs (r.data.toList.take (k + 1)) = true) := Lib.hid (by
              rw [digs_take_succ hkl, HK.out, eg]; simp [UInt8.le_iff_toNat_le]; omega)
            clear hkl eg
            go_wp2_with fail
            go_round
            case rel => exact ⟨k + 1, by omega, by go_num, HS⟩
            case measure => simp [intOf]; omega
      · obtain rfl : k = r.size := by omega
        have hpos : 0 < r.size := by omega
        have hd : digs r.data.toList = true := by have := HK.out; rwa [List.take_of_length_le (by rw [HL.out]; exact Nat.le_refl _)] at this
        have hne : r.data.toList.isEmpty = false := by rw [← Lib.toList_data]; exact HE.out
        have hhd : r.data.toList.head? = some (r[0]'hpos) := by
          rw [List.head?_eq_getElem?, List.getElem?_eq_getElem (by rw [HL.out]; exact hpos)]; rfl
        by_cases c1 : ((r[0]'hpos).toNat : Int) = 48
        · have c1' : (((r[0]'hpos).toNat : Int) == 48) = true := by simpa using c1
          have hz : r[0]'hpos = 48 := by rw [← UInt8.toNat_inj]; simp; omega
          have HF : Hid (D = ((r.toList == [48]) && !ng)) := Lib.hid (by rw [HD.out, hne, hd, hhd, hz, Lib.toList_data]; simp)
          clear hd hne hhd hz c1 HK
          go_wp2_with fail
          · have h : r.toList = [48] := by assumption
            go_ret
            refine ⟨?_, rfl⟩
            show Ending.returned (.bool (!ng)) = _
            rw [HF.out, h]; simp
          · have h : ¬ r.toList = [48] := by assumption
            go_ret
            refine ⟨?_, rfl⟩
            show Ending.returned (.bool false) = _
            rw [HF.out]; simp [h]
        · have c1' : (((r[0]'hpos).toNat : Int) == 48) = false := by simpa using c1
          have hz : ¬ r[0]'hpos = 48 := fun h => c1 (by rw [h]; rfl)
          have HF : Hid (D = true) := Lib.hid (by rw [HD.out, hne, hd, hhd]; simp [hz])
          clear hd hne hhd hz c1 HK
          go_wp2_with fail
          go_ret
          exact ⟨by rw [HF.out]; rfl, rfl⟩

end Go.Proofs.YtljncdcjkdgkeaaGreatDoor.Big

namespace Go.Proofs.YtljncdcjkdgkeaaGreatDoor.Big
open Go.RowKit

/-- the number that decimal digits write -/
def valD (l : List UInt8) : Nat := l.foldl (fun a c => a * 10 + (c.toNat - 48)) 0
def parseZ (l : List UInt8) : Int := sgn (negd l) (valD (rest l))
theorem foldl_valD (l : List UInt8) : ∀ a, l.foldl (fun a c => a * 10 + (c.toNat - 48)) a = a * 10 ^ l.length + valD l := by
  unfold valD
  induction l with
  | nil => intro a; simp
  | cons c l ih =>
    intro a
    simp only [List.foldl_cons, List.length_cons]
    rw [ih, ih (0 * 10 + (c.toNat - 48)), Nat.pow_succ, Nat.zero_mul, Nat.zero_add, Nat.add_mul, Nat.mul_assoc, Nat.mul_comm 10, Nat.add_assoc]
theorem valD_append (l m : List UInt8) : valD (l ++ m) = valD l * 10 ^ m.length + valD m := by
  conv => lhs; unfold valD
  rw [List.foldl_append, foldl_valD]
  rfl
theorem valD_one (c : UInt8) : valD [c] = c.toNat - 48 := by simp [valD]
theorem digs_append (l m : List UInt8) : digs (l ++ m) = (digs l && digs m) := by unfold digs; exact List.all_append
theorem valD_lt {l : List UInt8} (h : digs l = true) : valD l < 10 ^ l.length := by
  induction l with
  | nil => simp [valD]
  | cons c l ih =>
    have h' : digs ([c] ++ l) = true := h
    rw [digs_append, Bool.and_eq_true] at h'
    have h1 := ih h'.2
    have h2 : valD (c :: l) = valD [c] * 10 ^ l.length + valD l := valD_append [c] l
    rw [h2, valD_one, List.length_cons, Nat.pow_succ]
    have h3 : c.toNat - 48 ≤ 9 := by
      have := h'.1; unfold digs at this; simp [UInt8.le_iff_toNat_le] at this; omega
    have h4 : (c.toNat - 48) * 10 ^ l.length ≤ 9 * 10 ^ l.length := Nat.mul_le_mul_right _ h3
    omega
theorem ten_le_pw (k : Nat) : 10 ^ k ≤ pw k := Nat.pow_le_pow_left (by omega) k

def strLen : Value → Nat | .string q => q.size | _ => 0
theorem digs_get {l : List UInt8} (h : digs l = true) {j : Nat} (hj : j < l.length) : 48 ≤ l[j].toNat ∧ l[j].toNat ≤ 57 := by
  unfold digs at h
  rw [List.all_eq_true] at h
  have := h _ (List.getElem_mem hj)
  simp [UInt8.le_iff_toNat_le] at this
  exact this
theorem digs_drop {l : List UInt8} (h : digs l = true) (k : Nat) : digs (l.drop k) = true := by
  have : digs (l.take k ++ l.drop k) = true := by rw [List.take_append_drop]; exact h
  rw [digs_append, Bool.and_eq_true] at this; exact this.2
theorem digs_take {l : List UInt8} (h : digs l = true) (k : Nat) : digs (l.take k) = true := by
  have : digs (l.take k ++ l.drop k) = true := by rw [List.take_append_drop]; exact h
  rw [digs_append, Bool.and_eq_true] at this; exact this.1
theorem valD_succ {l : List UInt8} {j : Nat} (hj : j < l.length) : valD (l.take (j + 1)) = valD (l.take j) * 10 + (l[j].toNat - 48) := by
  rw [List.take_succ_eq_append_getElem hj, valD_append, valD_one]; rfl

def zeroAgg : Value := .agg #[.bool false, .slice none 0 0]
def ErrPost (w : World) (n : Int) (e : Ending) (w' : World) : Prop := e = .returned (.tuple #[zeroAgg, .int .i64 n]) ∧ Ext w w'
def OkPost (w : World) (z : Int) (e : Ending) (w' : World) : Prop := ∃ v, e = .returned (.tuple #[v, .int .i64 0]) ∧ BigV w' v z ∧ Ext w w'

set_option maxHeartbeats 1000000 in
theorem Parse_form (s : ByteArray) (w : World) (hs : s.size ≤ 4096) (h : isDec s.data.toList = false) : Calls Tryz.prog 128 #[.string s] w (ErrPost w 3) := by
  have H := Lib.hid h
  clear h
  go_enter Tryz.func128, Tryz.ntmps128
  go_wp2_with fail
  refine (isDecimal_any _ _ (by omega)).mono ?_
  rintro e w' ⟨rfl, rfl⟩
  rw [H.out]
  go_wp2_with fail
  refine bodyPost_ret (v := .tuple #[.agg #[.bool false, .slice none 0 0], .int .i64 3]) (by simp [results, Tryz.results128, go_sem]) rfl ?_
  exact ⟨rfl, (Ext.refl w).alloc _⟩

set_option maxHeartbeats 2000000 in
theorem Parse_ok (s : ByteArray) (w : World) (hs : s.size ≤ 4096) (h : isDec s.data.toList = true) : Calls Tryz.prog 128 #[.string s] w (OkPost w (parseZ s.data.toList)) := by
  have H := Lib.hid h
  have hd : digs (rest s.data.toList) = true := by unfold isDec at h; simp at h; exact h.1.2
  have hsz := cutS_size s
  obtain ⟨r, hr⟩ : ∃ r, r = cutS s := ⟨_, rfl⟩
  obtain ⟨l, hl⟩ : ∃ l, l = rest s.data.toList := ⟨_, rfl⟩
  have hrl : r.data.toList = l := by rw [hl, hr, cutS_list]
  obtain ⟨ng, hng⟩ : ∃ ng, ng = negd s.data.toList := ⟨_, rfl⟩
  obtain ⟨Z, hZ⟩ : ∃ Z, Z = parseZ s.data.toList := ⟨_, rfl⟩
  have hZ2 : sgn ng (valD l) = Z := by rw [hZ, hng, hl]; rfl
  rw [← hZ]
  rw [← hr] at hsz
  rw [← hl] at hd
  have hlen : l.length = r.size := by rw [← hrl]; simp
  have HR := Lib.hid hr
  have HN := Lib.hid hng
  have HZ := Lib.hid hZ2
  have HDG := Lib.hid hd
  have HRL := Lib.hid hrl
  have hl4 : l.length ≤ 4096 := by omega
  have HLEN := Lib.hid hlen
  clear h hr hl hng hZ hZ2 hd hrl hlen
  go_enter Tryz.func128, Tryz.ntmps128
  go_wp2_with fail
  refine (isDecimal_any _ _ (by omega)).mono ?_
  rintro e w' ⟨rfl, rfl⟩
  rw [H.out]
  go_wp2_with fail
  refine (cut_any _ _).mono ?_
  rintro e w' ⟨rfl, rfl⟩
  rw [← HR.out, ← HN.out]
  go_wp2_with fail
  have B0 := Box.new w 56 #[.bool false, .slice none 0 0]
  have hE0 : Ext w (w.alloc (.cells #[.bool false, .slice none 0 0] 56)) := (Ext.refl w).alloc _
  generalize w.alloc (.cells #[.bool false, .slice none 0 0] 56) = W0 at *
  go_loopw [4, 6] (fun rs ds wr => ∃ (q : ByteArray) (k n c : Nat) (A : Option Addr), rs = .string q ∧ ds = .slice A n c ∧ k ≤ l.length ∧ q.size = l.length - k ∧ Hid (q.data.toList = l.drop k) ∧ Dig wr (.slice A n c) n (valD (l.take k)) ∧ Trm n (valD (l.take k)) ∧ Ext W0 wr)
    (fun rs _ _ => strLen rs)
  case atStart => exact ⟨r, 0, 0, 0, none, rfl, rfl, by omega, by have := HLEN.out; omega, Lib.hid (by rw [HRL.out]; rfl), Dig.nil _, .inl rfl, Ext.refl _⟩
  case round =>
    obtain ⟨q, k, n, c, A, rfl, rfl, hk, hq, HQ, hdig, htrm, hext⟩ := hrel
    have hqs : q.size ≤ 4096 := by omega
    have HQS := Lib.hid hq
    clear hq
    by_cases h0 : 0 < q.size
    · by_cases hz : q.size % 9 = 0
      · have e1 : (((q.size : Int) % 9) == 0) = true := by simp; omega
        have hs9 : 9 ≤ q.size := by omega
        go_wp2_with fail
        clear e1 hz
        go_loop [8, 9, 33] (fun v sc i => ∃ j : Nat, j ≤ 9 ∧ i = .int .i64 j ∧ (∃ V : Nat, v = .int .u64 V ∧ V < 1000000000 ∧ Hid (V = valD (q.data.toList.take j))) ∧ (∃ T : Nat, sc = .int .u64 T ∧ T ≤ 1000000000 ∧ Hid (T = 10 ^ j))) (fun _ _ i => (9) - (intOf i).toNat)
        case atStart => exact ⟨0, by omega, rfl, ⟨0, rfl, by omega, Lib.hid (by simp [valD])⟩, ⟨1, rfl, by omega, Lib.hid rfl⟩⟩
        case round =>
          obtain ⟨j, hj, rfl, ⟨V, rfl, hV, HV⟩, ⟨T, rfl, hT, HT⟩⟩ := hrel
          have hql : q.data.toList.length = q.size := by simp
          have HQL := Lib.hid hql
          clear hql
          have hdq : digs q.data.toList = true := by rw [HQ.out]; exact digs_drop HDG.out k
          by_cases hlt : j < 9
          · have hjq : j < q.size := by omega
            obtain ⟨hc1, hc2⟩ := digs_get hdq (j := j) (by rw [HQL.out]; exact hjq)
            have eg : q.data.toList[j]'(by rw [HQL.out]; exact hjq) = q[j]'hjq := rfl
            have hVn : valD (q.data.toList.take (j + 1)) = V * 10 + ((q[j]'hjq).toNat - 48) := by rw [valD_succ (by rw [HQL.out]; exact hjq), ← HV.out, eg]
            rw [eg] at hc1 hc2
            have hV2 : V * 10 + ((q[j]'hjq).toNat - 48) < 1000000000 := by
              rw [← hVn]
              refine Nat.lt_of_lt_of_le (valD_lt (digs_take hdq (j + 1))) ?_
              rw [List.length_take]
              exact Nat.le_trans (Nat.pow_le_pow_right (by omega) (Nat.min_le_left _ _)) (Nat.pow_le_pow_right (n := 10) (j := 9) (by omega) (by omega))
            have hT2 : T * 10 ≤ 1000000000 := by
              rw [HT.out, ← Nat.pow_succ]
              exact Nat.pow_le_pow_right (n := 10) (j := 9) (by omega) (by omega)
            have HVN := Lib.hid hVn
            clear hVn eg hdq
            go_wp2_with fail
            go_round
            case rel => exact ⟨j + 1, by omega, by go_num, ⟨V * 10 + ((q[j]'hjq).toNat - 48), by go_num, hV2, Lib.hid HVN.out.symm⟩, ⟨T * 10, by go_num, hT2, Lib.hid (by rw [HT.out, Nat.pow_succ])⟩⟩
            case measure => simp [intOf]; omega
          · have hj2 : j = 9 := by omega
            have HJ := Lib.hid hj2
            have hVT : V < T := by
              rw [HV.out, HT.out]
              refine Nat.lt_of_lt_of_le (valD_lt (digs_take hdq j)) (Nat.pow_le_pow_right (by omega) ?_)
              rw [List.length_take]; exact Nat.min_le_left _ _
            have hnk : n ≤ k := htrm.le (Nat.lt_of_lt_of_le (valD_lt (digs_take HDG.out k)) (Nat.le_trans (Nat.pow_le_pow_right (by omega) (by rw [List.length_take]; exact Nat.min_le_left _ _)) (ten_le_pw k)))
            clear hj2 hdq
            go_wp2_with fail
            refine (scaled_any _ _ _ _ _ _ hdig (by omega) (by omega) hVT (by omega)).mono ?_
            rintro e w2 ⟨v2, n2, rfl, hd2, ht2, hx2⟩
            have hd2' := hd2
            obtain ⟨A2, c2, rfl, _⟩ := hd2'
            have hval : valD (l.take (k + (9))) = valD (l.take k) * T + V := by
              rw [List.take_add, valD_append, ← HQ.out, List.length_take, HQL.out, Nat.min_eq_left (by omega), HT.out, HV.out, HJ.out]
            rw [← hval] at hd2 ht2
            have HVAL := Lib.hid hval
            clear hval
            go_wp2_with fail
            go_roundw
            case rel =>
              have hqs2 := HQS.out
              refine ⟨_, k + (9), n2, c2, A2, rfl, rfl, by omega, by simp; omega, Lib.hid ?_, hd2, ht2, hext.trans hx2⟩
              rw [Lib.extract_to_end, HQ.out, List.drop_drop]
            case measure => simp [strLen]; omega
      · have e1 : (((q.size : Int) % 9) == 0) = false := by simp; omega
        have hs9 : q.size % 9 ≤ 8 := by omega
        have hs8 : 1 ≤ q.size % 9 := by omega
        have hs7 : q.size % 9 ≤ q.size := Nat.mod_le _ _
        clear hz
        go_wp2_with fail
        clear e1
        go_loop [8, 9, 33] (fun v sc i => ∃ j : Nat, j ≤ q.size % 9 ∧ i = .int .i64 j ∧ (∃ V : Nat, v = .int .u64 V ∧ V < 1000000000 ∧ Hid (V = valD (q.data.toList.take j))) ∧ (∃ T : Nat, sc = .int .u64 T ∧ T ≤ 1000000000 ∧ Hid (T = 10 ^ j))) (fun _ _ i => (q.size % 9) - (intOf i).toNat)
        case atStart => exact ⟨0, by omega, rfl, ⟨0, rfl, by omega, Lib.hid (by simp [valD])⟩, ⟨1, rfl, by omega, Lib.hid rfl⟩⟩
        case round =>
          obtain ⟨j, hj, rfl, ⟨V, rfl, hV, HV⟩, ⟨T, rfl, hT, HT⟩⟩ := hrel
          have hql : q.data.toList.length = q.size := by simp
          have HQL := Lib.hid hql
          clear hql
          have hdq : digs q.data.toList = true := by rw [HQ.out]; exact digs_drop HDG.out k
          by_cases hlt : j < q.size % 9
          · have hjq : j < q.size := by omega
            obtain ⟨hc1, hc2⟩ := digs_get hdq (j := j) (by rw [HQL.out]; exact hjq)
            have eg : q.data.toList[j]'(by rw [HQL.out]; exact hjq) = q[j]'hjq := rfl
            have hVn : valD (q.data.toList.take (j + 1)) = V * 10 + ((q[j]'hjq).toNat - 48) := by rw [valD_succ (by rw [HQL.out]; exact hjq), ← HV.out, eg]
            rw [eg] at hc1 hc2
            have hV2 : V * 10 + ((q[j]'hjq).toNat - 48) < 1000000000 := by
              rw [← hVn]
              refine Nat.lt_of_lt_of_le (valD_lt (digs_take hdq (j + 1))) ?_
              rw [List.length_take]
              exact Nat.le_trans (Nat.pow_le_pow_right (by omega) (Nat.min_le_left _ _)) (Nat.pow_le_pow_right (n := 10) (j := 9) (by omega) (by omega))
            have hT2 : T * 10 ≤ 1000000000 := by
              rw [HT.out, ← Nat.pow_succ]
              exact Nat.pow_le_pow_right (n := 10) (j := 9) (by omega) (by omega)
            have HVN := Lib.hid hVn
            clear hVn eg hdq
            go_wp2_with fail
            go_round
            case rel => exact ⟨j + 1, by omega, by go_num, ⟨V * 10 + ((q[j]'hjq).toNat - 48), by go_num, hV2, Lib.hid HVN.out.symm⟩, ⟨T * 10, by go_num, hT2, Lib.hid (by rw [HT.out, Nat.pow_succ])⟩⟩
            case measure => simp [intOf]; omega
          · have hj2 : j = q.size % 9 := by omega
            have HJ := Lib.hid hj2
            have hVT : V < T := by
              rw [HV.out, HT.out]
              refine Nat.lt_of_lt_of_le (valD_lt (digs_take hdq j)) (Nat.pow_le_pow_right (by omega) ?_)
              rw [List.length_take]; exact Nat.min_le_left _ _
            have hnk : n ≤ k := htrm.le (Nat.lt_of_lt_of_le (valD_lt (digs_take HDG.out k)) (Nat.le_trans (Nat.pow_le_pow_right (by omega) (by rw [List.length_take]; exact Nat.min_le_left _ _)) (ten_le_pw k)))
            clear hj2 hdq
            go_wp2_with fail
            refine (scaled_any _ _ _ _ _ _ hdig (by omega) (by omega) hVT (by omega)).mono ?_
            rintro e w2 ⟨v2, n2, rfl, hd2, ht2, hx2⟩
            have hd2' := hd2
            obtain ⟨A2, c2, rfl, _⟩ := hd2'
            have hval : valD (l.take (k + (q.size % 9))) = valD (l.take k) * T + V := by
              rw [List.take_add, valD_append, ← HQ.out, List.length_take, HQL.out, Nat.min_eq_left (by omega), HT.out, HV.out, HJ.out]
            rw [← hval] at hd2 ht2
            have HVAL := Lib.hid hval
            clear hval
            go_wp2_with fail
            go_roundw
            case rel =>
              have hqs2 := HQS.out
              refine ⟨_, k + (q.size % 9), n2, c2, A2, rfl, rfl, by omega, by simp; omega, Lib.hid ?_, hd2, ht2, hext.trans hx2⟩
              rw [Lib.extract_to_end, HQ.out, List.drop_drop]
            case measure => simp [strLen]; omega
    · have hkl : k = l.length := by have := HQS.out; omega
      have hval : valD (l.take k) = valD l := by rw [hkl, List.take_length]
      rw [hval] at hdig htrm
      clear hkl hval
      go_wp2_with fail
      refine (signed_any _ _ _ _ _ hdig).mono ?_
      rintro e w2 ⟨v2, rfl, hb2, hxB⟩
      rw [HZ.out] at hb2
      obtain ⟨A3, n3, c3, rfl, hd3, ht3⟩ := hb2.form
      have b2 := (B0.ext hext).ext hxB
      have q0 := b2.c0
      have q1 := b2.c1
      have f0 := b2.frozen 0
      have f1 := b2.frozen 1
      go_wp2_with fail
      obtain ⟨p1, p2, p3⟩ := hb2.put b2
      refine bodyPost_ret (v := .tuple #[.agg #[.bool (decide (Z < 0)), .slice A3 n3 c3], .int .i64 0]) (by simp [results, Tryz.results128, go_sem, p2, p3]) rfl ?_
      exact ⟨_, rfl, p1, (((hE0.trans hext).trans hxB).set (by simp) _).set (by simp) _⟩

end Go.Proofs.YtljncdcjkdgkeaaGreatDoor.Big

namespace Go.Proofs.YtljncdcjkdgkeaaGreatDoor.Big
open Go.RowKit Go.Sort Go.Lib

def TabOK (w : World) : Prop := Lib.TabIs Tryz.prog w "internal/strconv.uint64pow10" .u64 Lib.pow10Tab
theorem TabOK.ext {w w' : World} (h : TabOK w) (k : Ext w w') : TabOK w' := by
  have hg : Tryz.prog.globalNamed "internal/strconv.uint64pow10" = some 0 := by kernel_rfl
  have hlt : 0 < w.heap.size := by
    unfold TabOK Lib.TabIs World.var? at h
    rw [hg] at h
    rcases Nat.lt_or_ge 0 w.heap.size with h' | h'
    · exact h'
    · simp [Array.getElem?_eq_none h'] at h
  exact var?_below k hg hlt h
theorem Ext.grow (w : World) (os : Array Obj) : Ext w (grow w os) := ⟨rfl, rfl, rfl, by simp [Sort.grow], fun k hk => by simp [Sort.grow, Array.getElem?_append_left hk]⟩
theorem fin0 (w : World) (o : Obj) (dk : Array UInt8) (k : Nat) : Ext w ((putRow (fun (b : UInt8) => Value.int .u8 (b.toNat : Int)) (w.alloc o) w.heap.size 0 dk).drewN k) := by
  rw [alloc_eq_grow]
  obtain ⟨os', _, e⟩ := putRow_grow_new (fun (b : UInt8) => Value.int .u8 (b.toNat : Int)) w #[o] w.heap.size 0 dk (Nat.le_refl _)
  rw [e]
  exact (Ext.grow w os').drewN k
theorem holds_zero0 (w : World) (T : TypeId) (nd : Nat) (hs : nd ≤ 24) : Holds (fun (b : UInt8) => Value.int .u8 (b.toNat : Int)) (w.alloc (.cells zeros24 T)) w.heap.size 0 (Array.replicate nd (0 : UInt8)) := fun j hj => by
  have hj' : j < nd := by simpa using hj
  refine ⟨?_, World.frozen?_alloc_new _ _ _ _⟩
  rw [World.cell?_alloc_new, zeros24_at _ (by omega), getElem!_pos _ j hj]
  simp

def StrPost (w : World) (l : List UInt8) (e : Ending) (w' : World) : Prop := e = .returned (.string ⟨l.toArray⟩) ∧ Ext w w'

set_option maxHeartbeats 6400000 in
set_option maxRecDepth 100000 in
theorem FormatUint_inner (u : Nat) (w : World) (hu64 : u < 18446744073709551616) (htab : TabOK w) : Calls Tryz.prog 120 #[.int .u64 u, .int .i64 10] w (StrPost w (Lib.decDigits u)) := by
  by_cases hs : u < 100
  · go_enter Tryz.func120, Tryz.ntmps120
    go_wp2_with fail
    refine (Tryz.internal_strconv_small u hs _).mono ?_
    rintro e w' ⟨rfl, rfl⟩
    go_wp2_with fail
    go_ret
    exact ⟨rfl, Ext.refl _⟩
  · have hu1 : 1 ≤ u := by omega
    have hnd20 : Lib.nDigits u ≤ 20 := by have := Lib.numDigits_eq u hu1 hu64; split at this <;> omega
    have hal : Tryz.prog.arrayLen 181 = 24 := by kernel_rfl
    have hsl1 : ∀ W, (Instr.sliceAt 181 (.pointer (some ⟨w.heap.size, 0, none⟩)) none (some (.int .i64 (Lib.nDigits u : Int))) none).run Tryz.prog W = .ok (.slice (some ⟨w.heap.size, 0, none⟩) (Lib.nDigits u) 24) W := fun W => by
      rw [run_sliceAt_array_h W 181 ⟨w.heap.size, 0, none⟩ (by kernel_rfl) .i64 (Lib.nDigits u : Int) (by omega) (by rw [hal]; omega)]
      go_simp
      try omega
    have hH0 := holds_zero0 w 181 (Lib.nDigits u) (by omega)
    have hfmt := Tryz.internal_strconv_formatBase10 w.heap.size 0 24 u (Array.replicate (Lib.nDigits u) 0) (w.alloc (.cells Lib.zeros24 181)) hH0 (by rw [Array.size_replicate]; exact Lib.lt_pow_nDigits u) hu64 (by rw [Array.size_replicate]; omega)
    rw [Array.size_replicate] at hfmt
    have HH0 := Lib.hid hH0
    clear hH0 hal
    go_enter Tryz.func120, Tryz.ntmps120
    go_wp2_with fail
    refine (Tryz.internal_strconv_numDigits u hu1 hu64 _ (Lib.tabIs_alloc htab _)).mono ?_
    rintro e w' ⟨rfl, rfl⟩
    go_wp2_with fail
    refine hfmt.mono ?_
    rintro e w' ⟨rfl, k, v', dk, rfl, hF⟩
    have hcv : (convert 44 9 (.slice (some ⟨w.heap.size, 0, none⟩) (Lib.nDigits u) 24)).run Tryz.prog ((putRow (fun (b : UInt8) => Value.int .u8 (b.toNat : Int)) (w.alloc (.cells Lib.zeros24 181)) w.heap.size 0 dk).drewN k) = .ok (.string ⟨(Lib.decDigits u).toArray⟩) ((putRow (fun (b : UInt8) => Value.int .u8 (b.toNat : Int)) (w.alloc (.cells Lib.zeros24 181)) w.heap.size 0 dk).drewN k) := by
      have h := run_convert_bytes_back (P := Tryz.prog) ((putRow (fun (b : UInt8) => Value.int .u8 (b.toNat : Int)) (w.alloc (.cells Lib.zeros24 181)) w.heap.size 0 dk).drewN k) 44 9 5 ⟨w.heap.size, 0, none⟩ 24 (Lib.decDigits u) Tryz.underlying44 Tryz.underlying5 Tryz.underlying9 (fun j hj => by
        rw [Lib.row_is_numeral hF j hj, Lib.add_plain, World.cell?_drewN]
        exact cell?_putRow (fun (b : UInt8) => Value.int .u8 (b.toNat : Int)) _ w.heap.size 0 _ dk HH0.out (by rw [hF.size, Array.size_replicate]) j (by rw [hF.size]; rw [Lib.decDigits_length] at hj; exact hj))
      rw [Lib.decDigits_length] at h
      exact h
    have hE := fin0 w (.cells Lib.zeros24 181) dk k
    generalize (putRow (fun (b : UInt8) => Value.int .u8 (b.toNat : Int)) (w.alloc (.cells Lib.zeros24 181)) w.heap.size 0 dk).drewN k = w2 at *
    go_wp2_with fail
    go_ret
    exact ⟨rfl, hE⟩

theorem FormatUint_any (u : Nat) (w : World) (hu64 : u < 18446744073709551616) (htab : TabOK w) : Calls Tryz.prog 99 #[.int .u64 u, .int .i64 10] w (StrPost w (Lib.decDigits u)) := by
  go_enter Tryz.func99, Tryz.ntmps99
  go_wp2_with fail
  refine (FormatUint_inner u w hu64 htab).mono ?_
  rintro e w' ⟨rfl, hE⟩
  go_wp2_with fail
  go_ret
  exact ⟨rfl, hE⟩

end Go.Proofs.YtljncdcjkdgkeaaGreatDoor.Big
