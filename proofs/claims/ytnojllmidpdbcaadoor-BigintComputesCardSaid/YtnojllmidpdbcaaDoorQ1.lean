/- Walks: the law helpers awake, two, abs. -/
import Derived.Test.YtnojllmidpdbcaaDoorW17
import Derived.Test.YtnojllmidpdbcaaDoorW14
import Derived.Test.YtnojllmidpdbcaaDoorW12
import Derived.Test.YtnojllmidpdbcaaDoorW11
import Derived.Test.YtnojllmidpdbcaaDoorW10
import Derived.Test.YtnojllmidpdbcaaDoorW9
import Derived.Test.YtnojllmidpdbcaaDoorW8
import Derived.Test.YtnojllmidpdbcaaDoorMem2
set_option linter.unusedVariables false
set_option linter.unusedSimpArgs false
namespace Go.Proofs.YtnojllmidpdbcaaDoor.Big
open Go.RowKit

theorem BigV.shape {w : World} {v : Value} {z : Int} (h : BigV w v z) : ∃ p A n c, v = .agg #[.bool p, .slice A n c] := by
  obtain ⟨A, n, c, rfl, _⟩ := h.form
  exact ⟨_, A, n, c, rfl⟩
theorem Box.put2 {w : World} {b : Nat} {E : TypeId} {x y : Value} (h : Box w b E #[x, y]) (x' y' : Value) : Box ((w.setCell ⟨b, 0, none⟩ x').setCell ⟨b, 1, none⟩ y') b E #[x', y'] := by
  have h1 : Box _ _ _ #[x', y] := h.set 0 x'
  exact h1.set 1 y'
theorem itoa_p : Lib.itoa (-18446744073709551616) = [45, 49, 56, 52, 52, 54, 55, 52, 52, 48, 55, 51, 55, 48, 57, 53, 53, 49, 54, 49, 54] := by simp [Lib.itoa, Lib.decDigits]
theorem itoa_q : Lib.itoa (-3) = [45, 51] := by simp [Lib.itoa, Lib.decDigits]
theorem itoa_r : Lib.itoa (-1) = [45, 49] := by simp [Lib.itoa, Lib.decDigits]
theorem boxes2' (w : World) (E : TypeId) (c0 c1 : Array Value) {b : Nat} {E' : TypeId} {cs : Array Value} (h : Box w b E' cs) :
    Box ((w.alloc (.cells c0 E)).alloc (.cells c1 E)) b E' cs ∧ Box ((w.alloc (.cells c0 E)).alloc (.cells c1 E)) w.heap.size E c0 ∧ Box ((w.alloc (.cells c0 E)).alloc (.cells c1 E)) (w.heap.size + 1) E c1 ∧ Ext w ((w.alloc (.cells c0 E)).alloc (.cells c1 E)) := by
  obtain ⟨h0, h1, h2⟩ := boxes2 w E c0 c1
  exact ⟨h.ext h2, h0, h1, h2⟩
theorem boxN {w w' : World} {E : TypeId} {cs : Array Value} {n : Nat} (h : Ext ((w.alloc (.cells cs E)).drewN n) w') : Box w' w.heap.size E cs := ((Box.new w E cs).drewN n).ext h
theorem boxD {w w' : World} {E : TypeId} {cs : Array Value} (h : Ext ((w.alloc (.cells cs E)).drew) w') : Box w' w.heap.size E cs := (Box.new w E cs).drew.ext h
theorem box0 {w w' : World} {E : TypeId} {cs : Array Value} (h : Ext (w.alloc (.cells cs E)) w') : Box w' w.heap.size E cs := (Box.new w E cs).ext h

theorem abs_any (x : Value) (X : Int) (w : World) (hx : BigV w x X) : Calls Tryd.prog 25 #[x] w (BigPost w (X.natAbs : Nat)) := by
  obtain ⟨A1, n1, c1, rfl, hd1, ht1⟩ := hx.form
  obtain ⟨p, hp⟩ : ∃ p, p = decide (X < 0) := ⟨_, rfl⟩
  obtain ⟨G, hG⟩ : ∃ G : Int, G = (X.natAbs : Nat) := ⟨_, rfl⟩
  rw [← hp] at hx ⊢
  rw [← hG]
  have HG := Lib.hid hG
  clear hp hG
  go_enter Tryd.func25, Tryd.ntmps25
  go_wp2_with fail
  obtain ⟨B0, B1, hE0⟩ := boxes2 w 25 #[.bool p, .slice A1 n1 c1] #[.bool false, .slice none 0 0]
  generalize ((w.alloc (.cells #[.bool p, .slice A1 n1 c1] 25)).alloc (.cells #[.bool false, .slice none 0 0] 25)) = W0 at *
  have k00 := KE.c0 (w := w) B0 (show w.heap.size ∉ [w.heap.size + 1 + 1] by simp; omega)
  have k01 := KE.c1 (w := w) B0 (show w.heap.size ∉ [w.heap.size + 1 + 1] by simp; omega)
  have k10 := KE.c0 (w := w) B1 (show w.heap.size + 1 ∉ [w.heap.size + 1 + 1] by simp)
  have k11 := KE.c1 (w := w) B1 (show w.heap.size + 1 ∉ [w.heap.size + 1 + 1] by simp)
  have ks := KE.start (R := [w.heap.size + 1 + 1]) hE0 (by simp; omega)
  refine (Sign_any _ X W0 (hx.ext hE0)).mono ?_
  rintro e w1 ⟨rfl, hx1⟩
  have b0 := B0.ext hx1
  have b1 := B1.ext hx1
  have hb1 := (hx.ext hE0).ext hx1
  have q0 := b0.c0
  have q1 := b0.c1
  have hE1 := hE0.trans hx1
  obtain ⟨sg, hsg⟩ : ∃ sg, sg = X.sign := ⟨_, rfl⟩
  rw [← hsg]
  by_cases hn : X < 0
  · have e1 : decide (sg < 0) = true := by
      rw [hsg]; rcases sign_cases X with ⟨a, b⟩ | ⟨a, b⟩ | ⟨a, b⟩ <;> simp [b] <;> omega
    have HZ := Lib.hid (show G = -X by have := HG.out; omega)
    clear hn hsg
    go_wp2_with fail
    refine (Neg_any _ X _ hb1).mono ?_
    rintro e w2 ⟨v2, rfl, hb2, hx2⟩
    rw [← HZ.out] at hb2
    obtain ⟨A3, n3, c3, rfl, hd3, ht3⟩ := hb2.form
    have b2 := b1.ext hx2
    have r0 := b2.c0
    have r1 := b2.c1
    have f0 := b2.frozen 0
    have f1 := b2.frozen 1
    go_wp2_with fail
    obtain ⟨p1, p2, p3⟩ := hb2.put b2
    refine bodyPost_ret (v := .agg #[.bool (decide (G < 0)), .slice A3 n3 c3]) (by simp [results, Tryd.results25, go_sem, p2, p3]) rfl ?_
    exact ⟨_, rfl, p1, ((hE1.trans hx2).set (by simp) _).set (by simp) _⟩
  · have e1 : decide (sg < 0) = false := by
      rw [hsg]; rcases sign_cases X with ⟨a, b⟩ | ⟨a, b⟩ | ⟨a, b⟩ <;> simp [b] <;> omega
    have hz : G = X := by have := HG.out; omega
    rw [← hz] at hb1
    clear hz hn hsg
    have r0 := b1.c0
    have r1 := b1.c1
    have f0 := b1.frozen 0
    have f1 := b1.frozen 1
    go_wp2_with fail
    obtain ⟨p1, p2, p3⟩ := hb1.put b1
    refine bodyPost_ret (v := .agg #[.bool p, .slice A1 n1 c1]) (by simp [results, Tryd.results25, go_sem, p2, p3]) rfl ?_
    exact ⟨_, rfl, p1, (hE1.set (by simp) _).set (by simp) _⟩

set_option maxHeartbeats 4000000 in
theorem awake_any (w : World) (htab : TabOK w) : Calls Tryd.prog 13 #[] w (fun e w' => e = .returned (.bool true) ∧ Ext w w') := by
  go_enter Tryd.func13, Tryd.ntmps13
  go_wp2_with fail
  obtain ⟨S1, hS1⟩ : ∃ S1 : ByteArray, S1 = ⟨#[52, 50, 57, 52, 57, 54, 55, 50, 57, 54]⟩ := ⟨_, rfl⟩
  rw [← hS1]
  refine (Parse_ok S1 _ (by rw [hS1]; decide) (by rw [hS1]; decide)).mono ?_
  rintro e w1 ⟨v1, rfl, hv1, hx1⟩
  have hz : parseZ S1.data.toList = 4294967296 := by rw [hS1]; decide
  rw [hz] at hv1
  clear hz hS1
  obtain ⟨p1, A1, n1, c1, rfl⟩ := hv1.shape
  go_wp2_with fail
  have B1 := Box.new w1 25 #[.bool p1, .slice A1 n1 c1]
  have hE1 := (Ext.refl w1).alloc (.cells #[.bool p1, .slice A1 n1 c1] 25)
  have hv1' := hv1.ext hE1
  have hE1' := hx1.trans hE1
  generalize (w1.alloc (.cells #[.bool p1, .slice A1 n1 c1] 25)) = W1 at *
  have k00 : ∀ w', Ext W1 w' → w'.cell? ⟨w1.heap.size, 0, none⟩ = some (.bool p1) := fun w' h => (B1.ext h).c0
  have k01 : ∀ w', Ext W1 w' → w'.cell? ⟨w1.heap.size, 1, none⟩ = some (.slice A1 n1 c1) := fun w' h => (B1.ext h).c1
  have ks := Ext.refl W1
  go_upto_region 2 with fail
  go_cut [3] (fun v wx => ∃ (b n c : Nat) (p : Bool) (A : Option Addr), v = .pointer (some ⟨b, 0, none⟩) ∧ Box wx b 25 #[.bool p, .slice A n c] ∧ BigV wx (.agg #[.bool p, .slice A n c]) (-18446744073709551616) ∧ Ext W1 wx)
  case first =>
    go_region_held3 (fun w' => Ext W1 w') ((repeat (first | assumption | apply Ext.drew | apply Ext.drewN | apply Ext.alloc | (refine Ext.set ?_ (by first | exact Ext.size (by assumption) | (simp; done)) _) | (refine Ext.trans ?_ (by assumption))))) (first
        | (go_at_call 27; (with_reducible refine (Neg_any _ _ _ (hv1'.ext (by assumption))).mono ?_); rintro e w2 ⟨v2, rfl, hb2, hx2⟩; (obtain ⟨p2, A2, n2, c2, rfl⟩ := hb2.shape); (have hS2 : Ext W1 w2 := Ext.trans (by assumption) hx2); (try (have bq := Box.ext (by assumption) hx2)); (try (have bq := boxN hx2)); (try (have bq := boxD hx2)); (try (have bq := box0 hx2)); (try (have q0 := bq.c0; have q1 := bq.c1; have f0 := bq.frozen 0; have f1 := bq.frozen 1)))
        | (go_at_call 23; (with_reducible refine (Mul_any _ _ _ _ 3 _ (hv1'.ext (by assumption)) (hb2.ext (by repeat (first | exact Ext.refl _ | apply Ext.alloc | apply Ext.drewN | apply Ext.drew))) (by decide) (by decide) (by omega)).mono ?_); rintro e w3 ⟨v3, rfl, hb3, hx3⟩; (obtain ⟨p3, A3, n3, c3, rfl⟩ := hb3.shape); (have hS3 : Ext W1 w3 := Ext.trans (by assumption) hx3); (try (have bq := Box.ext (by assumption) hx3)); (try (have bq := boxN hx3)); (try (have bq := boxD hx3)); (try (have bq := box0 hx3)); (try (have q0 := bq.c0; have q1 := bq.c1; have f0 := bq.frozen 0; have f1 := bq.frozen 1)))
      )
    all_goals (go_wp2_with fail; go_meet; first | exact ⟨_, _, _, _, _, rfl, Box.new _ _ _, hb3.ext ((Ext.refl _).alloc _), hS3.alloc _⟩ | exact ⟨_, _, _, _, _, rfl, bq.put2 _ _, (hb3.put bq).1, (hS3.set (by first | exact hS2.size | exact Nat.le_refl _) _).set (by first | exact hS2.size | exact Nat.le_refl _) _⟩)
  case rest =>
    obtain ⟨b, n, c, p, A, rfl, B3, hb3, hE3⟩ := hcut
    clear k00 k01 ks hv1 hv1'
    have hE3' := hE1'.trans hE3
    obtain ⟨P, hP⟩ : ∃ P : Int, P = -18446744073709551616 := ⟨_, rfl⟩
    have hPb : P.natAbs < pw 3 := by rw [hP]; decide
    have hPn : P ≠ 0 := by rw [hP]; decide
    have hPT := Lib.hid (show (⟨(Lib.itoa P).toArray⟩ : ByteArray) = ⟨#[45, 49, 56, 52, 52, 54, 55, 52, 52, 48, 55, 51, 55, 48, 57, 53, 53, 49, 54, 49, 54]⟩ by rw [hP, itoa_p])
    have HP := Lib.hid hP
    rw [← hP] at hb3
    clear hP
    obtain ⟨Y7, hY7⟩ : ∃ P : Int, P = -7 := ⟨_, rfl⟩
    obtain ⟨Y2, hY2⟩ : ∃ P : Int, P = 2 := ⟨_, rfl⟩
    go_wp2_with fail
    refine (Of_any (-7) _ (by decide) (by decide)).mono ?_
    rintro e w4 ⟨v4, rfl, hb4, hx4⟩
    rw [← hY7] at hb4
    obtain ⟨p4, A4, n4, c4, rfl⟩ := hb4.shape
    go_wp2_with fail
    refine (Of_any 2 _ (by decide) (by decide)).mono ?_
    rintro e w5 ⟨v5, rfl, hb5, hx5⟩
    rw [← hY2] at hb5
    obtain ⟨p5, A5, n5, c5, rfl⟩ := hb5.shape
    go_wp2_with fail
    refine (Div_any _ _ Y7 Y2 1 _ (hb4.ext hx5) hb5 (by rw [hY7]; decide) (by omega) (by rw [hY2]; decide)).mono ?_
    rintro e w6 ⟨q, r, rfl, hbq, hbr, hx6⟩
    rw [show Int.tdiv Y7 Y2 = -3 by rw [hY7, hY2]; rfl] at hbq
    rw [show Int.tmod Y7 Y2 = -1 by rw [hY7, hY2]; rfl] at hbr
    obtain ⟨Q, hQ⟩ : ∃ P : Int, P = -3 := ⟨_, rfl⟩
    obtain ⟨R, hR⟩ : ∃ P : Int, P = -1 := ⟨_, rfl⟩
    rw [← hQ] at hbq
    rw [← hR] at hbr
    have hx36 := (hx4.trans hx5).trans hx6
    have b3 := B3.ext hx36
    have hb3' := hb3.ext hx36
    clear hY7 hY2 B3 hb3
    obtain ⟨pq, Aq, nq, cq, rfl⟩ := hbq.shape
    obtain ⟨pr, Ar, nr, cr, rfl⟩ := hbr.shape
    go_upto_region 4 with fail
    obtain ⟨B3, Bq, Br, hE7⟩ := boxes2' w6 25 #[.bool pq, .slice Aq nq cq] #[.bool pr, .slice Ar nr cr] b3
    generalize ((w6.alloc (.cells #[.bool pq, .slice Aq nq cq] 25)).alloc (.cells #[.bool pr, .slice Ar nr cr] 25)) = W7 at *
    have q0 := B3.c0
    have q1 := B3.c1
    clear b3
    go_wp2_with fail
    refine (Text_any _ _ 3 _ (hb3'.ext hE7) hPb (by omega) hPn (htab.ext ((hE3'.trans hx36).trans hE7))).mono ?_
    rintro e w8 ⟨rfl, hx8⟩
    rw [hPT.out]
    have hE8 := ((hE3'.trans hx36).trans hE7).trans hx8
    have B3 := B3.ext hx8
    have q0 := B3.c0
    have q1 := B3.c1
    go_wp2_with fail
    refine (Bits_any _ _ 3 _ ((hb3'.ext hE7).ext hx8) hPb (by omega)).mono ?_
    rintro e w9 ⟨nb, rfl, -, hnb, hx9⟩
    obtain rfl : nb = 65 := by
      rw [HP.out] at hnb
      obtain ⟨h1, h2, h3⟩ := hnb (by decide)
      have e64 : (18446744073709551616 : Nat) = 2 ^ 64 := by decide
      have en : Int.natAbs (-18446744073709551616) = 2 ^ 64 := by decide
      rw [en] at h2 h3
      have k1 := (Nat.pow_le_pow_iff_right (a := 2) (by omega)).1 h2
      have k2 := (Nat.pow_lt_pow_iff_right (a := 2) (by omega)).1 h3
      omega
    clear hnb
    have hE9 := hE8.trans hx9
    have Bq := (Bq.ext hx8).ext hx9
    have Br := (Br.ext hx8).ext hx9
    have q0 := Bq.c0
    have q1 := Bq.c1
    have hbq9 := ((hbq.ext hE7).ext hx8).ext hx9
    have hbr9 := ((hbr.ext hE7).ext hx8).ext hx9
    have hQT := Lib.hid (show (⟨(Lib.itoa Q).toArray⟩ : ByteArray) = ⟨#[45, 51]⟩ by rw [hQ, itoa_q])
    have hRT := Lib.hid (show (⟨(Lib.itoa R).toArray⟩ : ByteArray) = ⟨#[45, 49]⟩ by rw [hR, itoa_r])
    have hQ0 : Q.natAbs < pw 3 := by rw [hQ]; decide
    have hR0 : R.natAbs < pw 3 := by rw [hR]; decide
    have hQ1 : Q ≠ 0 := by rw [hQ]; decide
    have hR1 : R ≠ 0 := by rw [hR]; decide
    clear hQ hR
    go_wp2_with fail
    refine (Text_any _ _ 3 _ hbq9 hQ0 (by omega) hQ1 (htab.ext hE9)).mono ?_
    rintro e w10 ⟨rfl, hx10⟩
    rw [hQT.out]
    have hE10 := hE9.trans hx10
    have Br := Br.ext hx10
    have q0 := Br.c0
    have q1 := Br.c1
    go_wp2_with fail
    refine (Text_any _ _ 3 _ (hbr9.ext hx10) hR0 (by omega) hR1 (htab.ext hE10)).mono ?_
    rintro e w11 ⟨rfl, hx11⟩
    rw [hRT.out]
    have hE11 := hE10.trans hx11
    go_wp2_with fail
    go_ret
    exact ⟨rfl, hE11⟩

end Go.Proofs.YtnojllmidpdbcaaDoor.Big
