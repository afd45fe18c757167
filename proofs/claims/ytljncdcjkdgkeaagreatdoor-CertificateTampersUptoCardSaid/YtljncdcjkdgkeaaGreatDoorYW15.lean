/- Walks: the methods of an integer. Walks: Mul, Add. Walks: Sign, Neg, Cmp, Sub, Of, Bits. Walks: Sub, Of, Bits, Div. Walks: Div, Gcd. Walks: Int. Walks: isDecimal, Parse. Walks: Parse. Wal -/
import Derived.Deep.RegionHeld3
import Derived.Deep.DrawnRows
import Derived.Deep.LoopGhost
import Derived.Lib.Strings
import Derived.Lib.IndexBytes
import Derived.Lib.ItoaMem
import Derived.Lib.LaidTab
import Derived.WalkSmall
import Derived.Test.YtljncdcjkdgkeaaGreatDoorYW4
import Derived.Test.YtljncdcjkdgkeaaGreatDoorYShelf
set_option linter.unusedVariables false
set_option linter.unusedSimpArgs false
namespace Go.Proofs.YtljncdcjkdgkeaaGreatDoor.Big
open Go.RowKit
theorem qew (a b : Value) (ha : q32 a = true) (hb : q32 b = true) : ∀ (i : Nat) (k : IntKind) (z : Int), (#[a, b] : Array Value)[i]? ≠ some (.int k z) := by
 intro i k z h
 match i, h with
 | 0, h => simp at h; subst h; cases ha
 | 1, h => simp at h; subst h; cases hb
 | i + 2, h => simp at h
theorem Dig.swap {w : World} {cs cs' : Array Value} {E E' : TypeId} {v : Value} {n V : Nat} (h : Dig (w.alloc (.cells cs E)) v n V) (hcs : ∀ (i : Nat) (k : IntKind) (z : Int), cs[i]? ≠ some (.int k z)) : Dig (w.alloc (.cells cs' E')) v n V := by
 obtain ⟨A, c, rfl, h1, h2, h3, h4⟩ := h
 refine ⟨A, c, rfl, h1, h2, h3, fun hn => ?_⟩
 obtain ⟨b, off, rfl, hc⟩ := h4 hn
 refine ⟨b, off, rfl, fun j hj => ?_⟩
 have hcj := hc j hj
 have hlt : b < (w.alloc (.cells cs E)).heap.size := World.block_lt_of_cell? _ _ hcj
 have hsz : (w.alloc (.cells cs E)).heap.size = w.heap.size + 1 := by simp
 rcases Nat.lt_or_ge b w.heap.size with hb | hb
 ·rw [World.cell?_alloc_lt _ _ _ hb] at hcj ⊢; exact hcj
 ·exfalso
  obtain rfl : b = w.heap.size := by omega
  rw [cell_of_row _ _ _ _ _ _ (heap_alloc_new w _)] at hcj
  exact hcs _ _ _ hcj
set_option maxHeartbeats 1000000 in
theorem qda (neg : Bool) (x : Value) (n V : Nat) (w : World) (hx : Dig w x n V) :
 Calls Tryz.prog 79 #[.bool neg, x] w (qxf w (sgn neg V)) := by
 have hx' := hx
 obtain ⟨A1, c1, rfl, h1, h2, hX, _⟩ := hx'
 go_enter Tryz.func79, Tryz.ntmps79
 go_wp2_with fail
 refine (qxv _ _ _ _ _ (hx.ext ((Ext.refl w).alloc _))).mono ?_
 rintro e w' ⟨v, n', rfl, hd, ht, rfl⟩
 have hd' := hd
 obtain ⟨A2, c2, rfl, h3, h4, hV, hcells⟩ := hd'
 have hpos := ht.pos_iff hV
 have HPOS := Lib.hid hpos
 clear hpos
 cases neg
 ·go_wp2_with fail
  refine bodyPost_ret (v := .agg #[.bool false, .slice A2 n' c2]) (by simp [results, Tryz.results79, go_sem]) rfl ?_
  exact ⟨_, rfl, ⟨.slice A2 n' c2, n', by rw [qdt]; rfl, by rw [q3t]; exact hd.swap (qew _ _ rfl rfl), by rw [q3t]; exact ht⟩, (Ext.refl w).alloc _⟩
 ·go_wp2_with fail
  refine bodyPost_ret (v := .agg #[.bool (decide (0 < n')), .slice A2 n' c2]) (by simp [results, Tryz.results79, go_sem]) rfl ?_
  exact ⟨_, rfl, ⟨.slice A2 n' c2, n', by rw [qdt]; simp [HPOS.out], by rw [q3t]; exact hd.swap (qew _ _ rfl rfl), by rw [q3t]; exact ht⟩, (Ext.refl w).alloc _⟩
attribute [local go_sem ↓] Go.wp_at_zero Go.wp_at_succ
set_option maxHeartbeats 4000000 in
theorem Mul_any (x y : Value) (X Y : Int) (L : Nat) (w : World) (hx : BigV w x X) (hy : BigV w y Y) (bx : X.natAbs < pw L) (bY : Y.natAbs < pw L) (hL : L ≤ 1099511627776) :
 Calls Tryz.prog 63 #[x, y] w (qxf w (X * Y)) := by
 obtain ⟨s1, n1, rfl, hd1, ht1⟩ := hx
 obtain ⟨s2, n2, rfl, hd2, ht2⟩ := hy
 have l1 := ht1.le bx
 have l2 := ht2.le bY
 go_enter Tryz.func63, Tryz.ntmps63
 go_wp2_with fail
 obtain ⟨B0, B1, B2, hE0⟩ := qws w 56 #[.bool (decide (X < 0)), s1] #[.bool (decide (Y < 0)), s2] #[.bool false, .slice none 0 0]
 generalize (((w.alloc (.cells #[.bool (decide (X < 0)), s1] 56)).alloc (.cells #[.bool (decide (Y < 0)), s2] 56)).alloc (.cells #[.bool false, .slice none 0 0] 56)) = W0 at *
 have k00 := KE.c0 (w := w) B0 (show w.heap.size ∉ [w.heap.size + 1 + 1] by simp; omega)
 have k01 := KE.c1 (w := w) B0 (show w.heap.size ∉ [w.heap.size + 1 + 1] by simp; omega)
 have k10 := KE.c0 (w := w) B1 (show w.heap.size + 1 ∉ [w.heap.size + 1 + 1] by simp)
 have k11 := KE.c1 (w := w) B1 (show w.heap.size + 1 ∉ [w.heap.size + 1 + 1] by simp)
 have ks := KE.start (R := [w.heap.size + 1 + 1]) hE0 (by simp; omega)
 go_region_held3 (fun w' => KE [w.heap.size + 1 + 1] w W0 w') ((repeat (first | assumption | apply KE.drew | apply KE.drewN | (refine KE.set ?_ (by simp) _) | (refine KE.step ?_ (by assumption))))) (first | (go_at_call 91; refine (qgu _ _ _ _ _ _ _ (hd1.ext (KE.ext (by assumption))) (hd2.ext (KE.ext (by assumption))) (by omega)).mono ?_; rintro e w1 ⟨v, n', rfl, hd, ht, hxA⟩) | (go_at_call 79; refine (qda _ _ _ _ _ hd).mono ?_; rintro e w2 ⟨v2, rfl, hb2, hxB⟩; rw [sgn_mul] at hb2; obtain ⟨A3, n3, c3, rfl, hd3, ht3⟩ := hb2.form; have b2 := (B2.drew.ext hxA).ext hxB; have q0 := b2.c0; have q1 := b2.c1; have f0 := b2.frozen 0; have f1 := b2.frozen 1))
 obtain ⟨p1, p2, p3⟩ := hb2.put b2
 go_wp2_with fail
 refine bodyPost_ret (v := .agg #[.bool (decide (X * Y < 0)), .slice A3 n3 c3]) (by simp [results, Tryz.results63, go_sem, p2, p3]) rfl ?_
 exact ⟨_, rfl, p1, KE.ext (by assumption)⟩
theorem sgn_add1 {x y : Int} (h : (decide (x < 0) == decide (y < 0)) = true) : sgn (decide (x < 0)) (x.natAbs + y.natAbs) = x + y := by
 unfold sgn
 by_cases hx : x < 0 <;> by_cases hy : y < 0 <;> simp [hx, hy] at h ⊢ <;> omega
theorem sgn_add2 {x y : Int} (h : (decide (x < 0) == decide (y < 0)) = false) (hl : y.natAbs ≤ x.natAbs) : sgn (decide (x < 0)) (x.natAbs - y.natAbs) = x + y := by
 unfold sgn
 by_cases hx : x < 0 <;> by_cases hy : y < 0 <;> simp [hx, hy] at h ⊢ <;> omega
theorem sgn_add3 {x y : Int} (h : (decide (x < 0) == decide (y < 0)) = false) (hl : x.natAbs ≤ y.natAbs) : sgn (decide (y < 0)) (y.natAbs - x.natAbs) = x + y := by
 unfold sgn
 by_cases hx : x < 0 <;> by_cases hy : y < 0 <;> simp [hx, hy] at h ⊢ <;> omega
theorem cmpI_nonneg {X Y : Nat} : 0 ≤ cmpI X Y ↔ Y ≤ X := by unfold cmpI; split <;> (try split) <;> omega
theorem trm_le {n m X Y : Nat} (hX : X < pw n) (tY : Trm m Y) (h : Y ≤ X) : m ≤ n := tY.le (Nat.lt_of_le_of_lt h hX)
set_option maxHeartbeats 4000000 in
theorem qo0 (x y : Value) (X Y : Int) (L : Nat) (w : World) (hx : BigV w x X) (hy : BigV w y Y) (bx : X.natAbs < pw L) (bY : Y.natAbs < pw L) (hL : L ≤ 1099511627776) :
 Calls Tryz.prog 80 #[x, y] w (qxf w (X + Y)) := by
 obtain ⟨s1, n1, rfl, hd1, ht1⟩ := hx
 obtain ⟨s2, n2, rfl, hd2, ht2⟩ := hy
 have l1 := ht1.le bx
 have l2 := ht2.le bY
 by_cases hs : (decide (X < 0) == decide (Y < 0)) = true
 ·have HS := Lib.hid hs
  go_enter Tryz.func80, Tryz.ntmps80
  go_wp2_with fail
  obtain ⟨B0, B1, B2, hE0⟩ := qws w 56 #[.bool (decide (X < 0)), s1] #[.bool (decide (Y < 0)), s2] #[.bool false, .slice none 0 0]
  generalize (((w.alloc (.cells #[.bool (decide (X < 0)), s1] 56)).alloc (.cells #[.bool (decide (Y < 0)), s2] 56)).alloc (.cells #[.bool false, .slice none 0 0] 56)) = W0 at *
  have k00 := KE.c0 (w := w) B0 (show w.heap.size ∉ [w.heap.size + 1 + 1] by simp; omega)
  have k01 := KE.c1 (w := w) B0 (show w.heap.size ∉ [w.heap.size + 1 + 1] by simp; omega)
  have k10 := KE.c0 (w := w) B1 (show w.heap.size + 1 ∉ [w.heap.size + 1 + 1] by simp)
  have k11 := KE.c1 (w := w) B1 (show w.heap.size + 1 ∉ [w.heap.size + 1 + 1] by simp)
  have ks := KE.start (R := [w.heap.size + 1 + 1]) hE0 (by simp; omega)
  go_region_held3 (fun w' => KE [w.heap.size + 1 + 1] w W0 w') ((repeat (first | assumption | apply KE.drew | apply KE.drewN | (refine KE.set ?_ (by simp) _) | (refine KE.step ?_ (by assumption))))) (first | (go_at_call 106; refine (sum_any _ _ _ _ _ _ _ (hd1.ext (KE.ext (by assumption))) (hd2.ext (KE.ext (by assumption))) (by omega) (by omega)).mono ?_; rintro e w1 ⟨v, n', rfl, hd, ht, hxA⟩) | (go_at_call 79; refine (qda _ _ _ _ _ hd).mono ?_; rintro e w2 ⟨v2, rfl, hb2, hxB⟩; rw [sgn_add1 HS.out] at hb2; obtain ⟨A3, n3, c3, rfl, hd3, ht3⟩ := hb2.form; have b2 := (B2.drew.ext hxA).ext hxB; have q0 := b2.c0; have q1 := b2.c1; have f0 := b2.frozen 0; have f1 := b2.frozen 1))
  obtain ⟨p1, p2, p3⟩ := hb2.put b2
  go_wp2_with fail
  refine bodyPost_ret (v := .agg #[.bool (decide (X + Y < 0)), .slice A3 n3 c3]) (by simp [results, Tryz.results80, go_sem, p2, p3]) rfl ?_
  exact ⟨_, rfl, p1, KE.ext (by assumption)⟩
 ·have hs : (decide (X < 0) == decide (Y < 0)) = false := by simpa using hs
  have HS := Lib.hid hs
  by_cases hle : Y.natAbs ≤ X.natAbs
  ·have hc := cmpI_nonneg.2 hle
   have hmn := trm_le (show X.natAbs < pw n1 by obtain ⟨_, _, _, _, _, h, _⟩ := hd1; exact h) ht2 hle
   go_enter Tryz.func80, Tryz.ntmps80
   go_wp2_with fail
   obtain ⟨B0, B1, B2, hE0⟩ := qws w 56 #[.bool (decide (X < 0)), s1] #[.bool (decide (Y < 0)), s2] #[.bool false, .slice none 0 0]
   generalize (((w.alloc (.cells #[.bool (decide (X < 0)), s1] 56)).alloc (.cells #[.bool (decide (Y < 0)), s2] 56)).alloc (.cells #[.bool false, .slice none 0 0] 56)) = W0 at *
   have k00 := KE.c0 (w := w) B0 (show w.heap.size ∉ [w.heap.size + 1 + 1] by simp; omega)
   have k01 := KE.c1 (w := w) B0 (show w.heap.size ∉ [w.heap.size + 1 + 1] by simp; omega)
   have k10 := KE.c0 (w := w) B1 (show w.heap.size + 1 ∉ [w.heap.size + 1 + 1] by simp)
   have k11 := KE.c1 (w := w) B1 (show w.heap.size + 1 ∉ [w.heap.size + 1 + 1] by simp)
   have ks := KE.start (R := [w.heap.size + 1 + 1]) hE0 (by simp; omega)
   refine (q1h _ _ _ _ _ _ _ (hd1.ext hE0) (hd2.ext hE0) ht1 ht2).mono ?_
   rintro e w1 ⟨rfl, d, rfl⟩
   have ks1 := ks.drewN d
   obtain ⟨q, hq⟩ : ∃ q, q = cmpI X.natAbs Y.natAbs := ⟨_, rfl⟩
   rw [← hq] at hc ⊢
   clear hq
   go_wp2_with fail
   go_region_held3 (fun w' => KE [w.heap.size + 1 + 1] w W0 w') ((repeat (first | assumption | apply KE.drew | apply KE.drewN | (refine KE.set ?_ (by simp) _) | (refine KE.step ?_ (by assumption))))) (first | (go_at_call 107; refine (qlh _ _ _ _ _ _ _ (hd1.ext (KE.ext (by assumption))) (hd2.ext (KE.ext (by assumption))) hmn hle).mono ?_; rintro e w1 ⟨v, n', rfl, hd, ht, hxA⟩) | (go_at_call 79; refine (qda _ _ _ _ _ hd).mono ?_; rintro e w2 ⟨v2, rfl, hb2, hxB⟩; rw [sgn_add2 HS.out hle] at hb2; obtain ⟨A3, n3, c3, rfl, hd3, ht3⟩ := hb2.form; have b2 := ((B2.drewN d).drew.ext hxA).ext hxB; have q0 := b2.c0; have q1 := b2.c1; have f0 := b2.frozen 0; have f1 := b2.frozen 1))
   obtain ⟨p1, p2, p3⟩ := hb2.put b2
   go_wp2_with fail
   refine bodyPost_ret (v := .agg #[.bool (decide (X + Y < 0)), .slice A3 n3 c3]) (by simp [results, Tryz.results80, go_sem, p2, p3]) rfl ?_
   exact ⟨_, rfl, p1, KE.ext (by assumption)⟩
  ·have hle' : X.natAbs ≤ Y.natAbs := by omega
   have hc : cmpI X.natAbs Y.natAbs < 0 := Int.not_le.1 fun h => hle (cmpI_nonneg.1 h)
   have hmn := trm_le (show Y.natAbs < pw n2 by obtain ⟨_, _, _, _, _, h, _⟩ := hd2; exact h) ht1 hle'
   go_enter Tryz.func80, Tryz.ntmps80
   go_wp2_with fail
   obtain ⟨B0, B1, B2, hE0⟩ := qws w 56 #[.bool (decide (X < 0)), s1] #[.bool (decide (Y < 0)), s2] #[.bool false, .slice none 0 0]
   generalize (((w.alloc (.cells #[.bool (decide (X < 0)), s1] 56)).alloc (.cells #[.bool (decide (Y < 0)), s2] 56)).alloc (.cells #[.bool false, .slice none 0 0] 56)) = W0 at *
   have k00 := KE.c0 (w := w) B0 (show w.heap.size ∉ [w.heap.size + 1 + 1] by simp; omega)
   have k01 := KE.c1 (w := w) B0 (show w.heap.size ∉ [w.heap.size + 1 + 1] by simp; omega)
   have k10 := KE.c0 (w := w) B1 (show w.heap.size + 1 ∉ [w.heap.size + 1 + 1] by simp)
   have k11 := KE.c1 (w := w) B1 (show w.heap.size + 1 ∉ [w.heap.size + 1 + 1] by simp)
   have ks := KE.start (R := [w.heap.size + 1 + 1]) hE0 (by simp; omega)
   refine (q1h _ _ _ _ _ _ _ (hd1.ext hE0) (hd2.ext hE0) ht1 ht2).mono ?_
   rintro e w1 ⟨rfl, d, rfl⟩
   have ks1 := ks.drewN d
   obtain ⟨q, hq⟩ : ∃ q, q = cmpI X.natAbs Y.natAbs := ⟨_, rfl⟩
   rw [← hq] at hc ⊢
   clear hq
   go_wp2_with fail
   go_region_held3 (fun w' => KE [w.heap.size + 1 + 1] w W0 w') ((repeat (first | assumption | apply KE.drew | apply KE.drewN | (refine KE.set ?_ (by simp) _) | (refine KE.step ?_ (by assumption))))) (first | (go_at_call 107; refine (qlh _ _ _ _ _ _ _ (hd2.ext (KE.ext (by assumption))) (hd1.ext (KE.ext (by assumption))) hmn hle').mono ?_; rintro e w1 ⟨v, n', rfl, hd, ht, hxA⟩) | (go_at_call 79; refine (qda _ _ _ _ _ hd).mono ?_; rintro e w2 ⟨v2, rfl, hb2, hxB⟩; rw [sgn_add3 HS.out hle'] at hb2; obtain ⟨A3, n3, c3, rfl, hd3, ht3⟩ := hb2.form; have b2 := ((B2.drewN d).drew.ext hxA).ext hxB; have q0 := b2.c0; have q1 := b2.c1; have f0 := b2.frozen 0; have f1 := b2.frozen 1))
   obtain ⟨p1, p2, p3⟩ := hb2.put b2
   go_wp2_with fail
   refine bodyPost_ret (v := .agg #[.bool (decide (X + Y < 0)), .slice A3 n3 c3]) (by simp [results, Tryz.results80, go_sem, p2, p3]) rfl ?_
   exact ⟨_, rfl, p1, KE.ext (by assumption)⟩
attribute [local go_sem ↓] Go.wp_at_zero Go.wp_at_succ
def qni (w : World) (z : Int) (e : Ending) (w' : World) : Prop := e = .returned (.int .i64 z) ∧ Ext w w'
set_option maxHeartbeats 1000000 in
theorem qtk (x : Value) (X : Int) (w : World) (hx : BigV w x X) : Calls Tryz.prog 77 #[x] w (qni w X.sign) := by
 obtain ⟨A, n, c, rfl, hd, ht⟩ := hx.form
 obtain ⟨-, h1, h2, hV, -⟩ := hd.inj
 have hp := ht.pos_iff hV
 rcases Int.lt_trichotomy X 0 with h | h | h
 ·have hn : ((n : Int) == 0) = false := by simp; omega
  have e1 : decide (X < 0) = true := by simpa using h
  have HE := Lib.hid (Int.sign_eq_neg_one_of_neg h)
  clear hp
  go_enter Tryz.func77, Tryz.ntmps77
  go_wp2
  go_ret
  exact ⟨by rw [HE.out]; rfl, (Ext.refl w).alloc _⟩
 ·subst h
  obtain rfl : n = 0 := by simp at hp; exact hp
  go_enter Tryz.func77, Tryz.ntmps77
  go_wp2
  go_ret
  exact ⟨rfl, (Ext.refl w).alloc _⟩
 ·have hn : ((n : Int) == 0) = false := by simp; omega
  have e1 : decide (X < 0) = false := by simp; omega
  have HE := Lib.hid (Int.sign_eq_one_of_pos h)
  clear hp
  go_enter Tryz.func77, Tryz.ntmps77
  go_wp2
  go_ret
  exact ⟨by rw [HE.out]; rfl, (Ext.refl w).alloc _⟩
theorem sgn_neg' (x : Int) : sgn (!decide (x < 0)) x.natAbs = -x := by
 unfold sgn; by_cases h : x < 0 <;> simp [h] <;> omega
set_option maxHeartbeats 1000000 in
theorem qkv (x : Value) (X : Int) (w : World) (hx : BigV w x X) : Calls Tryz.prog 89 #[x] w (qxf w (-X)) := by
 obtain ⟨A, n, c, rfl, hd, ht⟩ := hx.form
 obtain ⟨Z, hZ⟩ : ∃ Z, Z = -X := ⟨_, rfl⟩
 rw [← hZ]
 have HZ := Lib.hid hZ
 clear hZ
 go_enter Tryz.func89, Tryz.ntmps89
 go_wp2_with fail
 obtain ⟨B0, B1, hE0⟩ := qc5 w 56 #[.bool (decide (X < 0)), .slice A n c] #[.bool false, .slice none 0 0]
 refine (qda _ _ _ _ _ (hd.ext hE0)).mono ?_
 rintro e w2 ⟨v2, rfl, hb2, hxB⟩
 rw [sgn_neg', ← HZ.out] at hb2
 obtain ⟨A3, n3, c3, rfl, hd3, ht3⟩ := hb2.form
 have b2 := B1.ext hxB
 have q0 := b2.c0
 have q1 := b2.c1
 have f0 := b2.frozen 0
 have f1 := b2.frozen 1
 go_wp2_with fail
 obtain ⟨p1, p2, p3⟩ := hb2.put b2
 refine bodyPost_ret (v := .agg #[.bool (decide (Z < 0)), .slice A3 n3 c3]) (by simp [results, Tryz.results89, go_sem, p2, p3]) rfl ?_
 exact ⟨_, rfl, p1, ((hE0.trans hxB).set (by simp) _).set (by simp) _⟩
def cmpZ (x y : Int) : Int := if x < y then -1 else if y < x then 1 else 0
theorem ql1 {x y : Int} (hx : x < 0) (hy : y < 0) : cmpI y.natAbs x.natAbs = cmpZ x y := by
 unfold cmpI cmpZ; split <;> split <;> (try split) <;> (try split) <;> omega
theorem qu0 {x y : Int} (hx : 0 ≤ x) (hy : 0 ≤ y) : cmpI x.natAbs y.natAbs = cmpZ x y := by
 unfold cmpI cmpZ; split <;> split <;> (try split) <;> (try split) <;> omega
theorem q83 (x : Int) : x < 0 ∧ x.sign = -1 ∨ x = 0 ∧ x.sign = 0 ∨ 0 < x ∧ x.sign = 1 := by
 rcases Int.lt_trichotomy x 0 with h | h | h
 ·exact .inl ⟨h, Int.sign_eq_neg_one_of_neg h⟩
 ·exact .inr (.inl ⟨h, by rw [h]; rfl⟩)
 ·exact .inr (.inr ⟨h, Int.sign_eq_one_of_pos h⟩)
set_option maxHeartbeats 4000000 in
set_option maxRecDepth 100000 in
theorem Cmp_any (x y : Value) (X Y : Int) (w : World) (hx : BigV w x X) (hy : BigV w y Y) : Calls Tryz.prog 45 #[x, y] w (qni w (cmpZ X Y)) := by
 obtain ⟨A1, n1, c1, rfl, hd1, ht1⟩ := hx.form
 obtain ⟨A2, n2, c2, rfl, hd2, ht2⟩ := hy.form
 by_cases hs : X.sign = Y.sign
 ·have e1 : (X.sign != Y.sign) = false := by simpa using hs
  by_cases hn : X < 0
  ·have hY : Y < 0 := by
    rcases q83 X with ⟨a, b⟩ | ⟨a, b⟩ | ⟨a, b⟩ <;> rcases q83 Y with ⟨c, d⟩ | ⟨c, d⟩ | ⟨c, d⟩ <;> omega
   have HC := Lib.hid (ql1 hn hY)
   have HN := Lib.hid hn
   clear hs hn hY
   go_enter Tryz.func45, Tryz.ntmps45
   go_wp2_with fail
   obtain ⟨B0, B1, hE0⟩ := qc5 w 56 #[.bool (decide (X < 0)), .slice A1 n1 c1] #[.bool (decide (Y < 0)), .slice A2 n2 c2]
   generalize ((w.alloc (.cells #[.bool (decide (X < 0)), .slice A1 n1 c1] 56)).alloc (.cells #[.bool (decide (Y < 0)), .slice A2 n2 c2] 56)) = W0 at *
   have k00 := KE.c0 (w := w) B0 (show w.heap.size ∉ [w.heap.size + 1 + 1] by simp; omega)
   have k01 := KE.c1 (w := w) B0 (show w.heap.size ∉ [w.heap.size + 1 + 1] by simp; omega)
   have k10 := KE.c0 (w := w) B1 (show w.heap.size + 1 ∉ [w.heap.size + 1 + 1] by simp)
   have k11 := KE.c1 (w := w) B1 (show w.heap.size + 1 ∉ [w.heap.size + 1 + 1] by simp)
   have ks := KE.start (R := [w.heap.size + 1 + 1]) hE0 (by simp; omega)
   go_region_held3 (fun w' => KE [w.heap.size + 1 + 1] w W0 w') ((repeat (first | assumption | apply KE.drew | apply KE.drewN | (refine KE.set ?_ (by simp) _) | (refine KE.step ?_ (by assumption))))) (first | (go_at_call 77; (with_reducible refine (qtk _ _ _ (hx.ext (KE.ext (by assumption)))).mono ?_); rintro e w1 ⟨rfl, hxA⟩) | (go_at_call 77; (with_reducible refine (qtk _ _ _ (hy.ext (KE.ext (by assumption)))).mono ?_); rintro e w2 ⟨rfl, hxB⟩))
   have e2 : decide (X < 0) = true := by simpa using HN.out
   go_wp2_with fail
   refine (q1h _ _ _ _ _ _ _ (hd2.ext (KE.ext (by assumption))) (hd1.ext (KE.ext (by assumption))) ht2 ht1).mono ?_
   rintro e w3 ⟨rfl, d, rfl⟩
   rw [HC.out]
   go_wp2_with fail
   go_ret
   exact ⟨rfl, Ext.drewN (KE.ext (R := [w.heap.size + 1 + 1]) (W0 := W0) (by assumption)) _⟩
  ·have hX : 0 ≤ X := by omega
   have hY : 0 ≤ Y := by
    rcases q83 X with ⟨a, b⟩ | ⟨a, b⟩ | ⟨a, b⟩ <;> rcases q83 Y with ⟨c, d⟩ | ⟨c, d⟩ | ⟨c, d⟩ <;> omega
   have HC := Lib.hid (qu0 hX hY)
   have HN := Lib.hid hn
   clear hs hn hX hY
   go_enter Tryz.func45, Tryz.ntmps45
   go_wp2_with fail
   obtain ⟨B0, B1, hE0⟩ := qc5 w 56 #[.bool (decide (X < 0)), .slice A1 n1 c1] #[.bool (decide (Y < 0)), .slice A2 n2 c2]
   generalize ((w.alloc (.cells #[.bool (decide (X < 0)), .slice A1 n1 c1] 56)).alloc (.cells #[.bool (decide (Y < 0)), .slice A2 n2 c2] 56)) = W0 at *
   have k00 := KE.c0 (w := w) B0 (show w.heap.size ∉ [w.heap.size + 1 + 1] by simp; omega)
   have k01 := KE.c1 (w := w) B0 (show w.heap.size ∉ [w.heap.size + 1 + 1] by simp; omega)
   have k10 := KE.c0 (w := w) B1 (show w.heap.size + 1 ∉ [w.heap.size + 1 + 1] by simp)
   have k11 := KE.c1 (w := w) B1 (show w.heap.size + 1 ∉ [w.heap.size + 1 + 1] by simp)
   have ks := KE.start (R := [w.heap.size + 1 + 1]) hE0 (by simp; omega)
   go_region_held3 (fun w' => KE [w.heap.size + 1 + 1] w W0 w') ((repeat (first | assumption | apply KE.drew | apply KE.drewN | (refine KE.set ?_ (by simp) _) | (refine KE.step ?_ (by assumption))))) (first | (go_at_call 77; (with_reducible refine (qtk _ _ _ (hx.ext (KE.ext (by assumption)))).mono ?_); rintro e w1 ⟨rfl, hxA⟩) | (go_at_call 77; (with_reducible refine (qtk _ _ _ (hy.ext (KE.ext (by assumption)))).mono ?_); rintro e w2 ⟨rfl, hxB⟩))
   have e2 : decide (X < 0) = false := by simpa using HN.out
   go_wp2_with fail
   refine (q1h _ _ _ _ _ _ _ (hd1.ext (KE.ext (by assumption))) (hd2.ext (KE.ext (by assumption))) ht1 ht2).mono ?_
   rintro e w3 ⟨rfl, d, rfl⟩
   rw [HC.out]
   go_wp2_with fail
   go_ret
   exact ⟨rfl, Ext.drewN (KE.ext (R := [w.heap.size + 1 + 1]) (W0 := W0) (by assumption)) _⟩
 ·have e1 : (X.sign != Y.sign) = true := by simpa using hs
  by_cases hlt : X.sign < Y.sign
  ·have e2 : decide (X.sign < Y.sign) = true := by simpa using hlt
   have hc : cmpZ X Y = -1 := by
    unfold cmpZ
    rcases q83 X with ⟨a, b⟩ | ⟨a, b⟩ | ⟨a, b⟩ <;> rcases q83 Y with ⟨c, d⟩ | ⟨c, d⟩ | ⟨c, d⟩ <;> (try rw [if_pos (by omega)]) <;> omega
   have HC := Lib.hid hc
   clear hc hs hlt
   go_enter Tryz.func45, Tryz.ntmps45
   go_wp2_with fail
   obtain ⟨B0, B1, hE0⟩ := qc5 w 56 #[.bool (decide (X < 0)), .slice A1 n1 c1] #[.bool (decide (Y < 0)), .slice A2 n2 c2]
   generalize ((w.alloc (.cells #[.bool (decide (X < 0)), .slice A1 n1 c1] 56)).alloc (.cells #[.bool (decide (Y < 0)), .slice A2 n2 c2] 56)) = W0 at *
   have k00 := KE.c0 (w := w) B0 (show w.heap.size ∉ [w.heap.size + 1 + 1] by simp; omega)
   have k01 := KE.c1 (w := w) B0 (show w.heap.size ∉ [w.heap.size + 1 + 1] by simp; omega)
   have k10 := KE.c0 (w := w) B1 (show w.heap.size + 1 ∉ [w.heap.size + 1 + 1] by simp)
   have k11 := KE.c1 (w := w) B1 (show w.heap.size + 1 ∉ [w.heap.size + 1 + 1] by simp)
   have ks := KE.start (R := [w.heap.size + 1 + 1]) hE0 (by simp; omega)
   go_region_held3 (fun w' => KE [w.heap.size + 1 + 1] w W0 w') ((repeat (first | assumption | apply KE.drew | apply KE.drewN | (refine KE.set ?_ (by simp) _) | (refine KE.step ?_ (by assumption))))) (first | (go_at_call 77; (with_reducible refine (qtk _ _ _ (hx.ext (KE.ext (by assumption)))).mono ?_); rintro e w1 ⟨rfl, hxA⟩) | (go_at_call 77; (with_reducible refine (qtk _ _ _ (hy.ext (KE.ext (by assumption)))).mono ?_); rintro e w2 ⟨rfl, hxB⟩))
   go_wp2_with fail
   clear hxA hxB
   go_region_held3 (fun w' => KE [w.heap.size + 1 + 1] w W0 w') ((repeat (first | assumption | apply KE.drew | apply KE.drewN | (refine KE.set ?_ (by simp) _) | (refine KE.step ?_ (by assumption))))) (first | (go_at_call 77; (with_reducible refine (qtk _ _ _ (hx.ext (KE.ext (by assumption)))).mono ?_); rintro e w1 ⟨rfl, hxA⟩) | (go_at_call 77; (with_reducible refine (qtk _ _ _ (hy.ext (KE.ext (by assumption)))).mono ?_); rintro e w2 ⟨rfl, hxB⟩))
   go_wp2_with fail
   go_ret
   exact ⟨by rw [HC.out]; rfl, KE.ext (R := [w.heap.size + 1 + 1]) (W0 := W0) (by assumption)⟩
  ·have e2 : decide (X.sign < Y.sign) = false := by simpa using hlt
   have hc : cmpZ X Y = 1 := by
    unfold cmpZ
    rcases q83 X with ⟨a, b⟩ | ⟨a, b⟩ | ⟨a, b⟩ <;> rcases q83 Y with ⟨c, d⟩ | ⟨c, d⟩ | ⟨c, d⟩ <;> (try rw [if_neg (by omega), if_pos (by omega)]) <;> omega
   have HC := Lib.hid hc
   clear hc hs hlt
   go_enter Tryz.func45, Tryz.ntmps45
   go_wp2_with fail
   obtain ⟨B0, B1, hE0⟩ := qc5 w 56 #[.bool (decide (X < 0)), .slice A1 n1 c1] #[.bool (decide (Y < 0)), .slice A2 n2 c2]
   generalize ((w.alloc (.cells #[.bool (decide (X < 0)), .slice A1 n1 c1] 56)).alloc (.cells #[.bool (decide (Y < 0)), .slice A2 n2 c2] 56)) = W0 at *
   have k00 := KE.c0 (w := w) B0 (show w.heap.size ∉ [w.heap.size + 1 + 1] by simp; omega)
   have k01 := KE.c1 (w := w) B0 (show w.heap.size ∉ [w.heap.size + 1 + 1] by simp; omega)
   have k10 := KE.c0 (w := w) B1 (show w.heap.size + 1 ∉ [w.heap.size + 1 + 1] by simp)
   have k11 := KE.c1 (w := w) B1 (show w.heap.size + 1 ∉ [w.heap.size + 1 + 1] by simp)
   have ks := KE.start (R := [w.heap.size + 1 + 1]) hE0 (by simp; omega)
   go_region_held3 (fun w' => KE [w.heap.size + 1 + 1] w W0 w') ((repeat (first | assumption | apply KE.drew | apply KE.drewN | (refine KE.set ?_ (by simp) _) | (refine KE.step ?_ (by assumption))))) (first | (go_at_call 77; (with_reducible refine (qtk _ _ _ (hx.ext (KE.ext (by assumption)))).mono ?_); rintro e w1 ⟨rfl, hxA⟩) | (go_at_call 77; (with_reducible refine (qtk _ _ _ (hy.ext (KE.ext (by assumption)))).mono ?_); rintro e w2 ⟨rfl, hxB⟩))
   go_wp2_with fail
   clear hxA hxB
   go_region_held3 (fun w' => KE [w.heap.size + 1 + 1] w W0 w') ((repeat (first | assumption | apply KE.drew | apply KE.drewN | (refine KE.set ?_ (by simp) _) | (refine KE.step ?_ (by assumption))))) (first | (go_at_call 77; (with_reducible refine (qtk _ _ _ (hx.ext (KE.ext (by assumption)))).mono ?_); rintro e w1 ⟨rfl, hxA⟩) | (go_at_call 77; (with_reducible refine (qtk _ _ _ (hy.ext (KE.ext (by assumption)))).mono ?_); rintro e w2 ⟨rfl, hxB⟩))
   go_wp2_with fail
   go_ret
   exact ⟨by rw [HC.out]; rfl, KE.ext (R := [w.heap.size + 1 + 1]) (W0 := W0) (by assumption)⟩
attribute [local go_sem ↓] Go.wp_at_zero Go.wp_at_succ
set_option maxHeartbeats 4000000 in
theorem Sub_any (x y : Value) (X Y : Int) (L : Nat) (w : World) (hx : BigV w x X) (hy : BigV w y Y) (bx : X.natAbs < pw L) (bY : Y.natAbs < pw L) (hL : L ≤ 1099511627776) :
 Calls Tryz.prog 86 #[x, y] w (qxf w (X - Y)) := by
 obtain ⟨A1, n1, c1, rfl, hd1, ht1⟩ := hx.form
 obtain ⟨A2, n2, c2, rfl, hd2, ht2⟩ := hy.form
 obtain ⟨Z, hZ⟩ : ∃ Z, Z = X - Y := ⟨_, rfl⟩
 obtain ⟨Y', hY'⟩ : ∃ Y', Y' = -Y := ⟨_, rfl⟩
 rw [← hZ]
 have HZ : Hid (X + Y' = Z) := Lib.hid (by omega)
 have HY := Lib.hid hY'
 have bY' : Y'.natAbs < pw L := by rw [hY', Int.natAbs_neg]; exact bY
 clear hZ hY'
 go_enter Tryz.func86, Tryz.ntmps86
 go_wp2_with fail
 obtain ⟨B0, B1, B2, hE0⟩ := qws w 56 #[.bool (decide (X < 0)), .slice A1 n1 c1] #[.bool (decide (Y < 0)), .slice A2 n2 c2] #[.bool false, .slice none 0 0]
 generalize (((w.alloc (.cells #[.bool (decide (X < 0)), .slice A1 n1 c1] 56)).alloc (.cells #[.bool (decide (Y < 0)), .slice A2 n2 c2] 56)).alloc (.cells #[.bool false, .slice none 0 0] 56)) = W0 at *
 have k00 := KE.c0 (w := w) B0 (show w.heap.size ∉ [w.heap.size + 1 + 1] by simp; omega)
 have k01 := KE.c1 (w := w) B0 (show w.heap.size ∉ [w.heap.size + 1 + 1] by simp; omega)
 have k10 := KE.c0 (w := w) B1 (show w.heap.size + 1 ∉ [w.heap.size + 1 + 1] by simp)
 have k11 := KE.c1 (w := w) B1 (show w.heap.size + 1 ∉ [w.heap.size + 1 + 1] by simp)
 have ks := KE.start (R := [w.heap.size + 1 + 1]) hE0 (by simp; omega)
 go_region_held3 (fun w' => KE [w.heap.size + 1 + 1] w W0 w') ((repeat (first | assumption | apply KE.drew | apply KE.drewN | (refine KE.set ?_ (by simp) _) | (refine KE.step ?_ (by assumption))))) (first | (go_at_call 89; refine (qkv _ _ _ (hy.ext (KE.ext (by assumption)))).mono ?_; rintro e w1 ⟨v1, rfl, hb1, hxA⟩; rw [← HY.out] at hb1) | (go_at_call 80; refine (qo0 _ _ _ _ L _ (hx.ext (KE.ext (by assumption))) hb1 bx bY' hL).mono ?_; rintro e w2 ⟨v2, rfl, hb2, hxB⟩; rw [HZ.out] at hb2; obtain ⟨A3, n3, c3, rfl, hd3, ht3⟩ := hb2.form; have b2 := (B2.drew.ext hxA).ext hxB; have q0 := b2.c0; have q1 := b2.c1; have f0 := b2.frozen 0; have f1 := b2.frozen 1))
 obtain ⟨p1, p2, p3⟩ := hb2.put b2
 go_wp2_with fail
 refine bodyPost_ret (v := .agg #[.bool (decide (Z < 0)), .slice A3 n3 c3]) (by simp [results, Tryz.results86, go_sem, p2, p3]) rfl ?_
 exact ⟨_, rfl, p1, KE.ext (by assumption)⟩
theorem q14 {a : Nat} (h : a < 18446744073709551616) : a < pw 2 ∧ dgt a 0 = a % 4294967296 ∧ dgt a 1 = a / 4294967296 := by
 refine ⟨h, ?_, ?_⟩
 ·unfold dgt; rw [qcr, Nat.div_one]
 ·unfold dgt; rw [qfj]; omega
theorem Dig.two (w : World) (E : TypeId) {a : Nat} (h : a < 18446744073709551616) {lo hi : Int} (hlo : lo = (a % 4294967296 : Nat)) (hhi : hi = (a / 4294967296 : Nat)) :
 Dig (w.alloc (.cells #[.int .u32 lo, .int .u32 hi] E)) (.slice (some ⟨w.heap.size, 0, none⟩) 2 2) 2 a := by
 obtain ⟨h1, h2, h3⟩ := q14 h
 refine ⟨_, 2, rfl, by omega, by omega, h1, fun _ => ⟨_, 0, rfl, fun j hj => ?_⟩⟩
 rw [cell_of_row _ _ _ _ _ _ (heap_alloc_new w _)]
 match j, hj with
 | 0, _ => rw [h2, hlo]; rfl
 | 1, _ => rw [h3, hhi]; rfl
set_option maxHeartbeats 1000000 in
theorem qob (n : Int) (w : World) (h0 : -9223372036854775808 ≤ n) (h1 : n ≤ 9223372036854775807) : Calls Tryz.prog 46 #[.int .i64 n] w (qxf w n) := by
 by_cases hn : n < 0
 ·have e1 : IntKind.u64.wrap (-IntKind.u64.wrap n) = (n.natAbs : Int) := by rw [IntKind.wrap_u64, IntKind.wrap_u64]; omega
  have ha : n.natAbs < 18446744073709551616 := by omega
  have HS := Lib.hid (show sgn true n.natAbs = n by unfold sgn; simp; omega)
  go_enter Tryz.func46, Tryz.ntmps46
  go_wp2_with fail
  have hD := Dig.two (w.alloc (.cells #[.bool false, .slice none 0 0] 56)) 147 ha (lo := (n.natAbs : Int) % 4294967296) (hi := (n.natAbs : Int) / 4294967296) (by omega) (by omega)
  rw [show (w.alloc (.cells #[.bool false, .slice none 0 0] 56)).heap.size = w.heap.size + 1 by simp] at hD
  have B1 := (Box.new w 56 #[.bool false, .slice none 0 0]).alloc (.cells #[.int .u32 ((n.natAbs : Int) % 4294967296), .int .u32 ((n.natAbs : Int) / 4294967296)] 147)
  refine (qda _ _ _ _ _ hD).mono ?_
  rintro e w2 ⟨v2, rfl, hb2, hxB⟩
  rw [HS.out] at hb2
  have HT : decide (n < 0) = true := by simpa using hn
  have HB := hb2
  have hE : Ext w w2 := (((Ext.refl w).alloc _).alloc _).trans hxB
  obtain ⟨A3, n3, c3, rfl, hd3, ht3⟩ := hb2.form
  rw [HT] at hb2 ⊢
  clear HT HB
  have b2 := B1.ext hxB
  have q0 := b2.c0
  have q1 := b2.c1
  have f0 := b2.frozen 0
  have f1 := b2.frozen 1
  clear hD
  go_wp2_with fail
  obtain ⟨p1, p2, p3⟩ := hb2.put b2
  refine bodyPost_ret (v := .agg #[.bool true, .slice A3 n3 c3]) (by simp [results, Tryz.results46, go_sem, p2, p3]) rfl ?_
  exact ⟨_, rfl, p1, (hE.set (by simp) _).set (by simp) _⟩
 ·have e1 : IntKind.u64.wrap n = (n.natAbs : Int) := by rw [IntKind.wrap_u64]; omega
  have ha : n.natAbs < 18446744073709551616 := by omega
  have HS := Lib.hid (show sgn false n.natAbs = n by unfold sgn; simp; omega)
  go_enter Tryz.func46, Tryz.ntmps46
  go_wp2_with fail
  have hD := Dig.two (w.alloc (.cells #[.bool false, .slice none 0 0] 56)) 147 ha (lo := (n.natAbs : Int) % 4294967296) (hi := (n.natAbs : Int) / 4294967296) (by omega) (by omega)
  rw [show (w.alloc (.cells #[.bool false, .slice none 0 0] 56)).heap.size = w.heap.size + 1 by simp] at hD
  have B1 := (Box.new w 56 #[.bool false, .slice none 0 0]).alloc (.cells #[.int .u32 ((n.natAbs : Int) % 4294967296), .int .u32 ((n.natAbs : Int) / 4294967296)] 147)
  refine (qda _ _ _ _ _ hD).mono ?_
  rintro e w2 ⟨v2, rfl, hb2, hxB⟩
  rw [HS.out] at hb2
  have HT : decide (n < 0) = false := by simpa using hn
  have HB := hb2
  have hE : Ext w w2 := (((Ext.refl w).alloc _).alloc _).trans hxB
  obtain ⟨A3, n3, c3, rfl, hd3, ht3⟩ := hb2.form
  rw [HT] at hb2 ⊢
  clear HT HB
  have b2 := B1.ext hxB
  have q0 := b2.c0
  have q1 := b2.c1
  have f0 := b2.frozen 0
  have f1 := b2.frozen 1
  clear hD
  go_wp2_with fail
  obtain ⟨p1, p2, p3⟩ := hb2.put b2
  refine bodyPost_ret (v := .agg #[.bool false, .slice A3 n3 c3]) (by simp [results, Tryz.results46, go_sem, p2, p3]) rfl ?_
  exact ⟨_, rfl, p1, (hE.set (by simp) _).set (by simp) _⟩
theorem pw_two (k : Nat) : pw k = 2 ^ (32 * k) := by unfold pw; rw [Nat.pow_mul]
attribute [local go_sem ↓] Go.wp_at_zero Go.wp_at_succ
theorem sgn_tdiv (x y : Int) : sgn (!(decide (x < 0) == decide (y < 0))) (x.natAbs / y.natAbs) = x.tdiv y := by
 unfold sgn
 rcases q3k x with ⟨ex, hx⟩ | ⟨ex, hx⟩ <;> rcases q3k y with ⟨ey, hy⟩ | ⟨ey, hy⟩ <;> simp only [hx, hy] <;> simp
 ·conv => rhs; rw [ex, ey]
  exact (Int.ofNat_tdiv _ _).symm
 ·conv => rhs; rw [ex, ey]
  rw [Int.tdiv_neg, ← Int.ofNat_tdiv]; rfl
 ·conv => rhs; rw [ex, ey]
  rw [Int.neg_tdiv, ← Int.ofNat_tdiv]; rfl
 ·conv => rhs; rw [ex, ey]
  rw [Int.neg_tdiv, Int.tdiv_neg, Int.neg_neg, ← Int.ofNat_tdiv]; rfl
theorem sgn_tmod (x y : Int) : sgn (decide (x < 0)) (x.natAbs % y.natAbs) = x.tmod y := by
 unfold sgn
 rcases q3k x with ⟨ex, hx⟩ | ⟨ex, hx⟩ <;> rcases q3k y with ⟨ey, hy⟩ | ⟨ey, hy⟩ <;> simp only [hx] <;> simp
 ·conv => rhs; rw [ex, ey]
  exact (Int.ofNat_tmod _ _).symm
 ·conv => rhs; rw [ex, ey]
  rw [Int.tmod_neg, ← Int.ofNat_tmod]; rfl
 ·conv => rhs; rw [ex, ey]
  rw [Int.neg_tmod, ← Int.ofNat_tmod]; rfl
 ·conv => rhs; rw [ex, ey]
  rw [Int.neg_tmod, Int.tmod_neg, ← Int.ofNat_tmod]; rfl
theorem BigV.far {w : World} {b : Nat} {E : TypeId} {x y v : Value} {z : Int} (h : BigV w v z) (hb : Box w b E #[x, y]) (hx : q32 x = true) (hy : q32 y = true) (i : Nat) (u : Value) : BigV (w.setCell ⟨b, i, none⟩ u) v z := by
 obtain ⟨s, n, rfl, h1, h2⟩ := h
 exact ⟨s, n, rfl, h1.far hb hx hy i u, h2⟩
theorem BigV.put2 {w : World} {b c : Nat} {E : TypeId} {p q p' q' : Bool} {A A0 A' A0' : Option Addr} {n k n0 k0 n' k' n0' k0' : Nat} {z z' : Int} (hne : b ≠ c)
 (h : BigV w (.agg #[.bool p, .slice A n k]) z) (h' : BigV w (.agg #[.bool p', .slice A' n' k']) z') (hb : Box w b E #[.bool q, .slice A0 n0 k0]) (hc : Box w c E #[.bool q', .slice A0' n0' k0']) :
 ∃ w', w' = ((((w.setCell ⟨b, 0, none⟩ (.bool p)).setCell ⟨b, 1, none⟩ (.slice A n k)).setCell ⟨c, 0, none⟩ (.bool p')).setCell ⟨c, 1, none⟩ (.slice A' n' k')) ∧
  BigV w' (.agg #[.bool p, .slice A n k]) z ∧ BigV w' (.agg #[.bool p', .slice A' n' k']) z' ∧ w'.cell? ⟨b, 0, none⟩ = some (.bool p) ∧ w'.cell? ⟨b, 1, none⟩ = some (.slice A n k) ∧
  w'.cell? ⟨c, 0, none⟩ = some (.bool p') ∧ w'.cell? ⟨c, 1, none⟩ = some (.slice A' n' k') := by
 refine ⟨_, rfl, ?_⟩
 have hb1 : Box (w.setCell ⟨b, 0, none⟩ (.bool p)) b E #[.bool p, .slice A0 n0 k0] := hb.set 0 _
 have hb2 : Box ((w.setCell ⟨b, 0, none⟩ (.bool p)).setCell ⟨b, 1, none⟩ (.slice A n k)) b E #[.bool p, .slice A n k] := hb1.set 1 _
 have hc2 := (hc.far (p := ⟨b, 0, none⟩) (fun e => hne e.symm) (.bool p)).far (p := ⟨b, 1, none⟩) (fun e => hne e.symm) (.slice A n k)
 have hc3 : Box _ c E #[.bool p', .slice A0' n0' k0'] := hc2.set 0 (.bool p')
 have hc4 : Box _ c E #[.bool p', .slice A' n' k'] := hc3.set 1 (.slice A' n' k')
 have hb4 := (hb2.far (p := ⟨c, 0, none⟩) hne (.bool p')).far (p := ⟨c, 1, none⟩) hne (.slice A' n' k')
 exact ⟨(((h.far hb rfl rfl 0 _).far hb1 rfl rfl 1 _).far hc2 rfl rfl 0 _).far hc3 rfl rfl 1 _, (((h'.far hb rfl rfl 0 _).far hb1 rfl rfl 1 _).far hc2 rfl rfl 0 _).far hc3 rfl rfl 1 _,
  hb4.c0, hb4.c1, hc4.c0, hc4.c1⟩
def DivZPost (w : World) (X Y : Int) (e : Ending) (w' : World) : Prop := ∃ q r, e = .returned (.tuple #[q, r, .int .i64 0]) ∧ BigV w' q (X.tdiv Y) ∧ BigV w' r (X.tmod Y) ∧ Ext w w'
set_option maxHeartbeats 4000000 in
theorem qcp (x y : Value) (X Y : Int) (L : Nat) (w : World) (hx : BigV w x X) (hy : BigV w y Y) (bx : X.natAbs < pw L) (hL : L ≤ 1099511627776) (hY : Y ≠ 0) :
 Calls Tryz.prog 85 #[x, y] w (DivZPost w X Y) := by
 obtain ⟨A1, n1, c1, rfl, hd1, ht1⟩ := hx.form
 obtain ⟨A2, n2, c2, rfl, hd2, ht2⟩ := hy.form
 have l1 := ht1.le bx
 have hn2 : ((n2 : Int) == 0) = false := by
  obtain ⟨-, -, -, hV, -⟩ := hd2.inj
  have := ht2.pos_iff hV; simp; omega
 have hY0 : 0 < Y.natAbs := by omega
 obtain ⟨Q, hQ⟩ : ∃ Q, Q = X.tdiv Y := ⟨_, rfl⟩
 obtain ⟨R, hR⟩ : ∃ R, R = X.tmod Y := ⟨_, rfl⟩
 have HQ := Lib.hid hQ
 have HR := Lib.hid hR
 clear hQ hR
 go_enter Tryz.func85, Tryz.ntmps85
 go_wp2_with fail
 obtain ⟨B0, B1, B2, B3, hE0⟩ := boxes4 w 56 #[.bool (decide (X < 0)), .slice A1 n1 c1] #[.bool (decide (Y < 0)), .slice A2 n2 c2] #[.bool false, .slice none 0 0] #[.bool false, .slice none 0 0]
 refine (q7a Tryz.bits_LeadingZeros32 _ _ _ _ _ _ _ (hd1.ext hE0) (hd2.ext hE0) ht1 ht2 hY0 (by omega)).mono ?_
 rintro e W0 ⟨q, r, nq, nr, rfl, hdq, htq, hdr, htr, hxE⟩
 have hE1 := hE0.trans hxE
 have B0 := B0.ext hxE
 have B1 := B1.ext hxE
 have B2 := B2.ext hxE
 have B3 := B3.ext hxE
 have k00 := KE.c0 (w := w) B0 (show w.heap.size ∉ [w.heap.size + 1 + 1, w.heap.size + 1 + 1 + 1] by simp; omega)
 have k10 := KE.c0 (w := w) B1 (show w.heap.size + 1 ∉ [w.heap.size + 1 + 1, w.heap.size + 1 + 1 + 1] by simp)
 have ks := KE.start (R := [w.heap.size + 1 + 1, w.heap.size + 1 + 1 + 1]) hE1 (by simp; omega)
 go_wp2_with fail
 go_region_held3 (fun w' => KE [w.heap.size + 1 + 1, w.heap.size + 1 + 1 + 1] w W0 w') ((repeat (first | assumption | apply KE.drew | apply KE.drewN | (refine KE.set ?_ (by simp) _) | (refine KE.step ?_ (by assumption))))) (first | (go_at_call 79; (with_reducible refine (qda _ q _ _ _ (hdq.ext (Ext.refl _).drew)).mono ?_); rintro e w1 ⟨v1, rfl, hb1, hxA⟩; rw [sgn_tdiv, ← HQ.out] at hb1) | (go_at_call 79; (with_reducible refine (qda _ r _ _ _ ((hdr.ext (Ext.refl _).drew).ext hxA)).mono ?_); rintro e w2 ⟨v2, rfl, hb2, hxB⟩; rw [sgn_tmod, ← HR.out] at hb2; have hb1 := hb1.ext hxB; obtain ⟨A3, n3, c3, rfl, hd3, ht3⟩ := hb1.form; obtain ⟨A4, n4, c4, rfl, hd4, ht4⟩ := hb2.form; have b2 := (B2.drew.ext hxA).ext hxB; have q0 := b2.c0; have q1 := b2.c1; have f0 := b2.frozen 0; have f1 := b2.frozen 1; have b3 := (B3.drew.ext hxA).ext hxB; have r0 := b3.c0; have r1 := b3.c1; have g0 := b3.frozen 0; have g1 := b3.frozen 1))
 obtain ⟨w3, hw3, p1, p2, u1, u2, u3, u4⟩ := BigV.put2 (by omega) hb1 hb2 b2 b3
 have hfin : Ext w w3 := by rw [hw3]; exact KE.ext (R := [w.heap.size + 1 + 1, w.heap.size + 1 + 1 + 1]) (W0 := W0) (by assumption)
 go_wp2_with fail
 rw [← hw3]
 refine bodyPost_ret (v := .tuple #[.agg #[.bool (decide (Q < 0)), .slice A3 n3 c3], .agg #[.bool (decide (R < 0)), .slice A4 n4 c4], .int .i64 0]) (by simp [results, Tryz.results85, go_sem, u1, u2, u3, u4]) rfl ?_
 exact ⟨_, _, rfl, by rw [← HQ.out]; exact p1, by rw [← HR.out]; exact p2, hfin⟩
set_option maxHeartbeats 4000000 in
theorem Gcd_any (x y : Value) (X Y : Int) (L : Nat) (w : World) (hx : BigV w x X) (hy : BigV w y Y) (bx : X.natAbs < pw L) (bY : Y.natAbs < pw L) (hL : L ≤ 1099511627776) :
 Calls Tryz.prog 90 #[x, y] w (qxf w (Nat.gcd X.natAbs Y.natAbs : Nat)) := by
 obtain ⟨A1, n1, c1, rfl, hd1, ht1⟩ := hx.form
 obtain ⟨A2, n2, c2, rfl, hd2, ht2⟩ := hy.form
 obtain ⟨G, hG⟩ : ∃ G, G = Nat.gcd X.natAbs Y.natAbs := ⟨_, rfl⟩
 rw [← hG]
 have HG := Lib.hid hG.symm
 clear hG
 go_enter Tryz.func90, Tryz.ntmps90
 go_wp2_with fail
 obtain ⟨B0, B1, B2, hE0⟩ := qws w 56 #[.bool (decide (X < 0)), .slice A1 n1 c1] #[.bool (decide (Y < 0)), .slice A2 n2 c2] #[.bool false, .slice none 0 0]
 generalize (((w.alloc (.cells #[.bool (decide (X < 0)), .slice A1 n1 c1] 56)).alloc (.cells #[.bool (decide (Y < 0)), .slice A2 n2 c2] 56)).alloc (.cells #[.bool false, .slice none 0 0] 56)) = W0 at *
 have k00 := KE.c0 (w := w) B0 (show w.heap.size ∉ [w.heap.size + 1 + 1] by simp; omega)
 have k01 := KE.c1 (w := w) B0 (show w.heap.size ∉ [w.heap.size + 1 + 1] by simp; omega)
 have k10 := KE.c0 (w := w) B1 (show w.heap.size + 1 ∉ [w.heap.size + 1 + 1] by simp)
 have k11 := KE.c1 (w := w) B1 (show w.heap.size + 1 ∉ [w.heap.size + 1 + 1] by simp)
 have ks := KE.start (R := [w.heap.size + 1 + 1]) hE0 (by simp; omega)
 go_quiet (fail)
 go_wp2_with fail
 go_loopg [5, 6] (Y.natAbs) (fun g u v wr => ∃ (As Ct : Option Addr) (n m cs ct a b : Nat), u = .slice As n cs ∧ v = .slice Ct m ct ∧ Dig wr (.slice As n cs) n a ∧ Dig wr (.slice Ct m ct) m b ∧ Trm n a ∧ Trm m b ∧ a < pw L ∧ b < pw L ∧ Hid (Nat.gcd a b = G) ∧ b ≤ g ∧ Ext W0 wr)
 case atStart => exact ⟨A1, A2, n1, n2, c1, c2, _, _, rfl, rfl, hd1.ext (hE0.drewN _), hd2.ext (hE0.drewN _), ht1, ht2, bx, bY, HG, Nat.le_refl _, Ext.drewN_self _ _⟩
 case round =>
  obtain ⟨As, Ct, n, m, cs, ct, a, b, rfl, rfl, hda, hdb, hta, htb, ha, hb, HGab, hbg, hext⟩ := hrel
  have hm := htb.pos_iff hdb.inj.2.2.2.1
  have hn := hta.le ha
  have hm2 := htb.le hb
  by_cases h0 : 0 < m
  ·have hb0 : 0 < b := hm.1 h0
   clear hm
   go_wp2_with fail
   refine (q7a Tryz.bits_LeadingZeros32 _ _ _ _ _ _ _ hda hdb hta htb hb0 (by omega)).mono ?_
   rintro e w3 ⟨q, r, nq, nr, rfl, hdq, htq, hdr, htr, hxE⟩
   have hdr' := hdr
   obtain ⟨Ar, cr, rfl, _⟩ := hdr'
   have hlt := Nat.mod_lt a hb0
   go_wp2_with fail
   go_roundg (a % b)
   case measure => omega
   case rel => exact ⟨Ct, Ar, m, nr, ct, cr, b, a % b, rfl, rfl, hdb.ext hxE, hdr, htb, htr, hb, Nat.lt_trans hlt hb, Lib.hid (by rw [← HGab.out, Nat.gcd_comm a b, Nat.gcd_rec b a, Nat.gcd_comm]), Nat.le_refl _, hext.trans hxE⟩
  ·obtain rfl : m = 0 := by omega
   have hb0 : b = 0 := by rcases Nat.eq_zero_or_pos b with h | h; exact h; exact absurd (hm.2 h) h0
   have haG : a = G := by have := HGab.out; rw [hb0, Nat.gcd_zero_right] at this; exact this
   have HA := Lib.hid haG
   clear haG hb0 hm
   go_wp2_with fail
   refine (qda _ _ _ _ _ hda).mono ?_
   rintro e w2 ⟨v2, rfl, hb2, hxB⟩
   rw [show sgn false a = (G : Int) by rw [HA.out]; rfl] at hb2
   obtain ⟨A3, n3, c3, rfl, hd3, ht3⟩ := hb2.form
   have HT : decide ((G : Int) < 0) = false := by simp
   rw [HT] at hb2 ⊢
   have b2 := (B2.ext hext).ext hxB
   have q0 := b2.c0
   have q1 := b2.c1
   have f0 := b2.frozen 0
   have f1 := b2.frozen 1
   go_wp2_with fail
   obtain ⟨p1, p2, p3⟩ := hb2.put b2
   refine bodyPost_ret (v := .agg #[.bool false, .slice A3 n3 c3]) (by simp [results, Tryz.results90, go_sem, p2, p3]) rfl ?_
   exact ⟨_, rfl, p1, (((hE0.trans hext).trans hxB).set (by simp; omega) _).set (by simp; omega) _⟩
def fits (X : Int) : Bool := decide (-9223372036854775808 ≤ X) && decide (X ≤ 9223372036854775807)
def IntOPost (w : World) (X : Int) (e : Ending) (w' : World) : Prop := e = .returned (.tuple #[.int .i64 (if fits X = true then X else 0), .bool (fits X)]) ∧ Ext w w'
theorem qfm : pw 2 = 18446744073709551616 := rfl
theorem or_high (a d : Nat) (k : Nat) (hk : k < 2) (ha : a < pw k) (hd : d < 4294967296) :
 bits .or .u64 (a : Int) (IntKind.u64.wrap ((d : Int) * 2 ^ (32 * k))) = ((a + pw k * d : Nat) : Int) := by
 have hp : pw k = 2 ^ (32 * k) := pw_two k
 have hk2 : pw k ≤ 4294967296 := by rw [← qfj]; exact qcv (by omega)
 have hk0 := qpt k
 have h1 : pw k * d ≤ 4294967296 * 4294967295 := Nat.mul_le_mul hk2 (by omega)
 have e : ((d : Int) * 2 ^ (32 * k)) = ((pw k * d : Nat) : Int) := by rw [hp]; simp [Int.mul_comm]
 rw [e, IntWalk.u64_in _ ⟨by omega, by omega⟩]
 have hc : bits .or .u64 (a : Int) ((pw k * d : Nat) : Int) = bits .or .u64 ((pw k * d : Nat) : Int) (a : Int) := by simp only [bits, BitVec.or_comm]
 rw [hc, bits_join .u64 64 (by decide) (fun n h0 h1 => IntWalk.u64_in n ⟨h0, by omega⟩) (32 * k) _ _ (by omega) (by rw [hp]; simp) (by omega) (by omega) (by rw [hp] at ha; exact_mod_cast ha) (by omega)]
 omega
set_option maxHeartbeats 1000000 in
theorem Int_any (x : Value) (X : Int) (L : Nat) (w : World) (hx : BigV w x X) (bx : X.natAbs < pw L) (hL : L ≤ 1099511627776) : Calls Tryz.prog 137 #[x] w (IntOPost w X) := by
 obtain ⟨A, n, c, rfl, hd, ht⟩ := hx.form
 obtain ⟨-, h1, h2, hV, hc⟩ := hd.inj
 have hl := ht.le bx
 by_cases h0 : 2 < n
 ·have hf : fits X = false := by
   have : pw 2 ≤ X.natAbs := by
    rcases ht with h | h
    ·omega
    ·exact Nat.le_trans (qcv (by omega)) h
   rw [qfm] at this
   unfold fits; simp; omega
  have HF := Lib.hid hf
  clear hf
  go_enter Tryz.func137, Tryz.ntmps137
  go_wp2_with fail
  go_ret2
  exact ⟨by rw [HF.out]; rfl, (Ext.refl w).alloc _⟩
 ·go_enter Tryz.func137, Tryz.ntmps137
  go_wp2_with fail
  go_loop [4, 13] (fun a i => ∃ k r : Nat, k ≤ n ∧ i = .int .i64 k ∧ a = .int .u64 r ∧ Hid (r = X.natAbs % pw k)) (fun _ i => n - (intOf i).toNat)
  case atStart => exact ⟨0, 0, by omega, rfl, rfl, Lib.hid (by simp [qcr, Nat.mod_one])⟩
  case round =>
   obtain ⟨k, r, hk, rfl, rfl, HR⟩ := hrel
   by_cases hlt : k < n
   ·obtain ⟨b, off, rfl, hcc⟩ := hc (by omega)
    have hcz := hcc k hlt
    have hcb : b < w.heap.size := World.block_lt_of_cell? _ _ hcz
    have hbk := qpa X.natAbs k
    have hor := or_high r (dgt X.natAbs k) k (by omega) (by rw [HR.out]; exact mod_le _ _) hbk
    have HO := Lib.hid hor
    have hk2 : k ≤ 1 := by omega
    clear hor hcc hc
    go_wp2_with fail
    go_round
    case rel => exact ⟨k + 1, r + pw k * dgt X.natAbs k, by omega, by go_num, qdq HO.out, Lib.hid (by rw [q1n, HR.out])⟩
    case measure => simp [intOf]; omega
   ·obtain rfl : k = n := by omega
    have hr : r = X.natAbs := by rw [HR.out]; exact qfk hV
    have HX := Lib.hid hr
    clear HR hc hV
    by_cases hn : X < 0
    ·have e1 : decide (X < 0) = true := by simpa using hn
     by_cases hb : 9223372036854775808 < r
     ·have e2 : decide ((9223372036854775808 : Int) < (r : Int)) = true := by simp; omega
      have HF : Hid (fits X = false) := Lib.hid (by unfold fits; simp; omega)
      clear hb hr hn
      go_wp2_with fail
      go_ret2
      exact ⟨by rw [HF.out]; rfl, (Ext.refl w).alloc _⟩
     ·have e2 : decide ((9223372036854775808 : Int) < (r : Int)) = false := by simp; omega
      have HF : Hid (fits X = true) := Lib.hid (by unfold fits; simp; omega)
      have HW : Hid (wrap64 (IntKind.u64.wrap (-(r : Int))) = X) := Lib.hid (by rw [IntKind.wrap_u64]; unfold wrap64; omega)
      clear hb hr hn
      go_wp2_with fail
      go_ret2
      refine ⟨?_, (Ext.refl w).alloc _⟩
      show Ending.returned (.tuple #[.int .i64 (wrap64 (IntKind.u64.wrap (-(r : Int)))), .bool true]) = _
      rw [HF.out, if_pos rfl, HW.out]
    ·have e1 : decide (X < 0) = false := by simpa using hn
     by_cases hb : 9223372036854775808 ≤ r
     ·have e2 : decide ((9223372036854775808 : Int) ≤ (r : Int)) = true := by simp; omega
      have HF : Hid (fits X = false) := Lib.hid (by unfold fits; simp; omega)
      clear hb hr hn
      go_wp2_with fail
      go_ret2
      exact ⟨by rw [HF.out]; rfl, (Ext.refl w).alloc _⟩
     ·have e2 : decide ((9223372036854775808 : Int) ≤ (r : Int)) = false := by simp; omega
      have HF : Hid (fits X = true) := Lib.hid (by unfold fits; simp; omega)
      have HW : Hid ((r : Int) = X) := Lib.hid (by omega)
      clear hr hn
      go_wp2_with fail
      go_ret2
      refine ⟨?_, (Ext.refl w).alloc _⟩
      show Ending.returned (.tuple #[.int .i64 (r : Int), .bool true]) = _
      rw [HF.out, if_pos rfl, HW.out]
def rest (l : List UInt8) : List UInt8 := Lib.trimPrefix l [45]
def digs (r : List UInt8) : Bool := r.all fun c => 48 ≤ c && c ≤ 57
end Go.Proofs.YtljncdcjkdgkeaaGreatDoor.Big
namespace Go.Proofs.YtljncdcjkdgkeaaGreatDoor.Big
open Go.RowKit Go.Sort Go.Lib
def TabOK (w : World) : Prop := Lib.TabIs Tryz.prog w "internal/strconv.uint64pow10" .u64 Lib.pow10Tab
theorem TabOK.ext {w w' : World} (h : TabOK w) (k : Ext w w') : TabOK w' := by
 have hg : Tryz.prog.globalNamed "internal/strconv.uint64pow10" = some 0 := by kernel_rfl
 have hlt : 0 < w.heap.size := by
  unfold TabOK Lib.TabIs World.var? at h
  rw [hg] at h
  rcases Nat.lt_or_ge 0 w.heap.size with h' | h'
  ·exact h'
  ·simp [Array.getElem?_eq_none h'] at h
 exact var?_below k hg hlt h
theorem Ext.grow (w : World) (os : Array Obj) : Ext w (grow w os) := ⟨rfl, rfl, rfl, by simp [Sort.grow], fun k hk => by simp [Sort.grow, Array.getElem?_append_left hk]⟩
theorem fin0 (w : World) (o : Obj) (dk : Array UInt8) (k : Nat) : Ext w ((putRow (fun (b : UInt8) => Value.int .u8 (b.toNat : Int)) (w.alloc o) w.heap.size 0 dk).drewN k) := by
 rw [alloc_eq_grow]
 obtain ⟨os', _, e⟩ := putRow_grow_new (fun (b : UInt8) => Value.int .u8 (b.toNat : Int)) w #[o] w.heap.size 0 dk (Nat.le_refl _)
 rw [e]
 exact (Ext.grow w os').drewN k
theorem holds_zero0 (w : World) (T : TypeId) (nd : Nat) (hs : nd ≤ 24) : Holds (fun (b : UInt8) => Value.int .u8 (b.toNat : Int)) (w.alloc (.cells zeros24 T)) w.heap.size 0 (Array.replicate nd (0 : UInt8)) := fun j hj => by
 have hj' : j < nd := by simpa using hj
 refine ⟨?_, World.frozen?_alloc_new _ _ _ _⟩
 rw [World.cell?_alloc_new, zeros24_at _ (by omega), getElem!_pos _ j hj]
 simp
def qte (w : World) (l : List UInt8) (e : Ending) (w' : World) : Prop := e = .returned (.string ⟨l.toArray⟩) ∧ Ext w w'
set_option maxHeartbeats 6400000 in
set_option maxRecDepth 100000 in
theorem q3a (u : Nat) (w : World) (hu64 : u < 18446744073709551616) (htab : TabOK w) : Calls Tryz.prog 120 #[.int .u64 u, .int .i64 10] w (qte w (Lib.decDigits u)) := by
 by_cases hs : u < 100
 ·go_enter Tryz.func120, Tryz.ntmps120
  go_wp2_with fail
  refine (Tryz.internal_strconv_small u hs _).mono ?_
  rintro e w' ⟨rfl, rfl⟩
  go_wp2_with fail
  go_ret
  exact ⟨rfl, Ext.refl _⟩
 ·have hu1 : 1 ≤ u := by omega
  have hnd20 : Lib.nDigits u ≤ 20 := by have := Lib.numDigits_eq u hu1 hu64; split at this <;> omega
  have hal : Tryz.prog.arrayLen 181 = 24 := by kernel_rfl
  have hsl1 : ∀ W, (Instr.sliceAt 181 (.pointer (some ⟨w.heap.size, 0, none⟩)) none (some (.int .i64 (Lib.nDigits u : Int))) none).run Tryz.prog W = .ok (.slice (some ⟨w.heap.size, 0, none⟩) (Lib.nDigits u) 24) W := fun W => by
   rw [run_sliceAt_array_h W 181 ⟨w.heap.size, 0, none⟩ (by kernel_rfl) .i64 (Lib.nDigits u : Int) (by omega) (by rw [hal]; omega)]
   go_simp
   try omega
  have hH0 := holds_zero0 w 181 (Lib.nDigits u) (by omega)
  have hfmt := Tryz.internal_strconv_formatBase10 w.heap.size 0 24 u (Array.replicate (Lib.nDigits u) 0) (w.alloc (.cells Lib.zeros24 181)) hH0 (by rw [Array.size_replicate]; exact Lib.lt_pow_nDigits u) hu64 (by rw [Array.size_replicate]; omega)
  rw [Array.size_replicate] at hfmt
  have HH0 := Lib.hid hH0
  clear hH0 hal
  go_enter Tryz.func120, Tryz.ntmps120
  go_wp2_with fail
  refine (Tryz.internal_strconv_numDigits u hu1 hu64 _ (Lib.tabIs_alloc htab _)).mono ?_
  rintro e w' ⟨rfl, rfl⟩
  go_wp2_with fail
  refine hfmt.mono ?_
  rintro e w' ⟨rfl, k, v', dk, rfl, hF⟩
  have hcv : (convert 44 9 (.slice (some ⟨w.heap.size, 0, none⟩) (Lib.nDigits u) 24)).run Tryz.prog ((putRow (fun (b : UInt8) => Value.int .u8 (b.toNat : Int)) (w.alloc (.cells Lib.zeros24 181)) w.heap.size 0 dk).drewN k) = .ok (.string ⟨(Lib.decDigits u).toArray⟩) ((putRow (fun (b : UInt8) => Value.int .u8 (b.toNat : Int)) (w.alloc (.cells Lib.zeros24 181)) w.heap.size 0 dk).drewN k) := by
   have h := run_convert_bytes_back (P := Tryz.prog) ((putRow (fun (b : UInt8) => Value.int .u8 (b.toNat : Int)) (w.alloc (.cells Lib.zeros24 181)) w.heap.size 0 dk).drewN k) 44 9 5 ⟨w.heap.size, 0, none⟩ 24 (Lib.decDigits u) Tryz.underlying44 Tryz.underlying5 Tryz.underlying9 (fun j hj => by
    rw [Lib.row_is_numeral hF j hj, Lib.add_plain, World.cell?_drewN]
    exact cell?_putRow (fun (b : UInt8) => Value.int .u8 (b.toNat : Int)) _ w.heap.size 0 _ dk HH0.out (by rw [hF.size, Array.size_replicate]) j (by rw [hF.size]; rw [Lib.decDigits_length] at hj; exact hj))
   rw [Lib.decDigits_length] at h
   exact h
  have hE := fin0 w (.cells Lib.zeros24 181) dk k
  generalize (putRow (fun (b : UInt8) => Value.int .u8 (b.toNat : Int)) (w.alloc (.cells Lib.zeros24 181)) w.heap.size 0 dk).drewN k = w2 at *
  go_wp2_with fail
  go_ret
  exact ⟨rfl, hE⟩
theorem qii (u : Nat) (w : World) (hu64 : u < 18446744073709551616) (htab : TabOK w) : Calls Tryz.prog 99 #[.int .u64 u, .int .i64 10] w (qte w (Lib.decDigits u)) := by
 go_enter Tryz.func99, Tryz.ntmps99
 go_wp2_with fail
 refine (q3a u w hu64 htab).mono ?_
 rintro e w' ⟨rfl, hE⟩
 go_wp2_with fail
 go_ret
 exact ⟨rfl, hE⟩
end Go.Proofs.YtljncdcjkdgkeaaGreatDoor.Big
