/- Walks: Div, Gcd. -/
import Derived.Test.YtginogcdjplhiaaGreatDoorW10
import Derived.Deep.LoopGhost
set_option linter.unusedVariables false
set_option linter.unusedSimpArgs false
namespace Go.Proofs.YtginogcdjplhiaaGreatDoor.Big
open Go.RowKit
attribute [local go_sem ↓] Go.wp_at_zero Go.wp_at_succ

theorem sgn_tdiv (x y : Int) : sgn (!(decide (x < 0) == decide (y < 0))) (x.natAbs / y.natAbs) = x.tdiv y := by
  unfold sgn
  rcases abs_cases x with ⟨ex, hx⟩ | ⟨ex, hx⟩ <;> rcases abs_cases y with ⟨ey, hy⟩ | ⟨ey, hy⟩ <;> simp only [hx, hy] <;> simp
  · conv => rhs; rw [ex, ey]
    exact (Int.ofNat_tdiv _ _).symm
  · conv => rhs; rw [ex, ey]
    rw [Int.tdiv_neg, ← Int.ofNat_tdiv]; rfl
  · conv => rhs; rw [ex, ey]
    rw [Int.neg_tdiv, ← Int.ofNat_tdiv]; rfl
  · conv => rhs; rw [ex, ey]
    rw [Int.neg_tdiv, Int.tdiv_neg, Int.neg_neg, ← Int.ofNat_tdiv]; rfl
theorem sgn_tmod (x y : Int) : sgn (decide (x < 0)) (x.natAbs % y.natAbs) = x.tmod y := by
  unfold sgn
  rcases abs_cases x with ⟨ex, hx⟩ | ⟨ex, hx⟩ <;> rcases abs_cases y with ⟨ey, hy⟩ | ⟨ey, hy⟩ <;> simp only [hx] <;> simp
  · conv => rhs; rw [ex, ey]
    exact (Int.ofNat_tmod _ _).symm
  · conv => rhs; rw [ex, ey]
    rw [Int.tmod_neg, ← Int.ofNat_tmod]; rfl
  · conv => rhs; rw [ex, ey]
    rw [Int.neg_tmod, ← Int.ofNat_tmod]; rfl
  · conv => rhs; rw [ex, ey]
    rw [Int.neg_tmod, Int.tmod_neg, ← Int.ofNat_tmod]; rfl

theorem BigV.far {w : World} {b : Nat} {E : TypeId} {x y v : Value} {z : Int} (h : BigV w v z) (hb : Box w b E #[x, y]) (hx : notInt x = true) (hy : notInt y = true) (i : Nat) (u : Value) : BigV (w.setCell ⟨b, i, none⟩ u) v z := by
  obtain ⟨s, n, rfl, h1, h2⟩ := h
  exact ⟨s, n, rfl, h1.far hb hx hy i u, h2⟩
theorem BigV.put2 {w : World} {b c : Nat} {E : TypeId} {p q p' q' : Bool} {A A0 A' A0' : Option Addr} {n k n0 k0 n' k' n0' k0' : Nat} {z z' : Int} (hne : b ≠ c)
    (h : BigV w (.agg #[.bool p, .slice A n k]) z) (h' : BigV w (.agg #[.bool p', .slice A' n' k']) z') (hb : Box w b E #[.bool q, .slice A0 n0 k0]) (hc : Box w c E #[.bool q', .slice A0' n0' k0']) :
    ∃ w', w' = ((((w.setCell ⟨b, 0, none⟩ (.bool p)).setCell ⟨b, 1, none⟩ (.slice A n k)).setCell ⟨c, 0, none⟩ (.bool p')).setCell ⟨c, 1, none⟩ (.slice A' n' k')) ∧
      BigV w' (.agg #[.bool p, .slice A n k]) z ∧ BigV w' (.agg #[.bool p', .slice A' n' k']) z' ∧ w'.cell? ⟨b, 0, none⟩ = some (.bool p) ∧ w'.cell? ⟨b, 1, none⟩ = some (.slice A n k) ∧
      w'.cell? ⟨c, 0, none⟩ = some (.bool p') ∧ w'.cell? ⟨c, 1, none⟩ = some (.slice A' n' k') := by
  refine ⟨_, rfl, ?_⟩
  have hb1 : Box (w.setCell ⟨b, 0, none⟩ (.bool p)) b E #[.bool p, .slice A0 n0 k0] := hb.set 0 _
  have hb2 : Box ((w.setCell ⟨b, 0, none⟩ (.bool p)).setCell ⟨b, 1, none⟩ (.slice A n k)) b E #[.bool p, .slice A n k] := hb1.set 1 _
  have hc2 := (hc.far (p := ⟨b, 0, none⟩) (fun e => hne e.symm) (.bool p)).far (p := ⟨b, 1, none⟩) (fun e => hne e.symm) (.slice A n k)
  have hc3 : Box _ c E #[.bool p', .slice A0' n0' k0'] := hc2.set 0 (.bool p')
  have hc4 : Box _ c E #[.bool p', .slice A' n' k'] := hc3.set 1 (.slice A' n' k')
  have hb4 := (hb2.far (p := ⟨c, 0, none⟩) hne (.bool p')).far (p := ⟨c, 1, none⟩) hne (.slice A' n' k')
  exact ⟨(((h.far hb rfl rfl 0 _).far hb1 rfl rfl 1 _).far hc2 rfl rfl 0 _).far hc3 rfl rfl 1 _, (((h'.far hb rfl rfl 0 _).far hb1 rfl rfl 1 _).far hc2 rfl rfl 0 _).far hc3 rfl rfl 1 _,
    hb4.c0, hb4.c1, hc4.c0, hc4.c1⟩

def DivZPost (w : World) (X Y : Int) (e : Ending) (w' : World) : Prop := ∃ q r, e = .returned (.tuple #[q, r, .int .i64 0]) ∧ BigV w' q (X.tdiv Y) ∧ BigV w' r (X.tmod Y) ∧ Ext w w'
def DivZero (w : World) (e : Ending) (w' : World) : Prop := e = .returned (.tuple #[.agg #[.bool false, .slice none 0 0], .agg #[.bool false, .slice none 0 0], .int .i64 9]) ∧ Ext w w'

set_option maxHeartbeats 4000000 in
theorem Div_zero (x y : Value) (X : Int) (w : World) (hx : BigV w x X) (hy : BigV w y 0) :
    Calls Tryz.prog 44 #[x, y] w (DivZero w) := by
  obtain ⟨A1, n1, c1, rfl, hd1, ht1⟩ := hx.form
  obtain ⟨A2, n2, c2, rfl, hd2, ht2⟩ := hy.form
  obtain rfl : n2 = 0 := by
    obtain ⟨-, -, -, hV, -⟩ := hd2.inj
    have := ht2.pos_iff hV; simp at this; exact this
  go_enter Tryz.func44, Tryz.ntmps44
  go_wp2_with fail
  refine bodyPost_ret (v := .tuple #[.agg #[.bool false, .slice none 0 0], .agg #[.bool false, .slice none 0 0], .int .i64 9]) (by simp [results, Tryz.results44, go_sem]) rfl ?_
  exact ⟨rfl, ((((Ext.refl w).alloc _).alloc _).alloc _).alloc _⟩

set_option maxHeartbeats 4000000 in
theorem Div_any (x y : Value) (X Y : Int) (L : Nat) (w : World) (hx : BigV w x X) (hy : BigV w y Y) (bx : X.natAbs < pw L) (hL : L ≤ 1099511627776) (hY : Y ≠ 0) :
    Calls Tryz.prog 44 #[x, y] w (DivZPost w X Y) := by
  obtain ⟨A1, n1, c1, rfl, hd1, ht1⟩ := hx.form
  obtain ⟨A2, n2, c2, rfl, hd2, ht2⟩ := hy.form
  have l1 := ht1.le bx
  have hn2 : ((n2 : Int) == 0) = false := by
    obtain ⟨-, -, -, hV, -⟩ := hd2.inj
    have := ht2.pos_iff hV; simp; omega
  have hY0 : 0 < Y.natAbs := by omega
  obtain ⟨Q, hQ⟩ : ∃ Q, Q = X.tdiv Y := ⟨_, rfl⟩
  obtain ⟨R, hR⟩ : ∃ R, R = X.tmod Y := ⟨_, rfl⟩
  have HQ := Lib.hid hQ
  have HR := Lib.hid hR
  clear hQ hR
  go_enter Tryz.func44, Tryz.ntmps44
  go_wp2_with fail
  obtain ⟨B0, B1, B2, B3, hE0⟩ := boxes4 w 26 #[.bool (decide (X < 0)), .slice A1 n1 c1] #[.bool (decide (Y < 0)), .slice A2 n2 c2] #[.bool false, .slice none 0 0] #[.bool false, .slice none 0 0]
  refine (divide_any Tryz.bits_LeadingZeros32 _ _ _ _ _ _ _ (hd1.ext hE0) (hd2.ext hE0) ht1 ht2 hY0 (by omega)).mono ?_
  rintro e W0 ⟨q, r, nq, nr, rfl, hdq, htq, hdr, htr, hxE⟩
  have hE1 := hE0.trans hxE
  have B0 := B0.ext hxE
  have B1 := B1.ext hxE
  have B2 := B2.ext hxE
  have B3 := B3.ext hxE
  have k00 := KE.c0 (w := w) B0 (show w.heap.size ∉ [w.heap.size + 1 + 1, w.heap.size + 1 + 1 + 1] by simp; omega)
  have k10 := KE.c0 (w := w) B1 (show w.heap.size + 1 ∉ [w.heap.size + 1 + 1, w.heap.size + 1 + 1 + 1] by simp)
  have ks := KE.start (R := [w.heap.size + 1 + 1, w.heap.size + 1 + 1 + 1]) hE1 (by simp; omega)
  go_wp2_with fail
  go_region_held3 (fun w' => KE [w.heap.size + 1 + 1, w.heap.size + 1 + 1 + 1] w W0 w') ((repeat (first | assumption | apply KE.drew | apply KE.drewN | (refine KE.set ?_ (by simp) _) | (refine KE.step ?_ (by assumption))))) (first | (go_at_call 59; (with_reducible refine (signed_any _ q _ _ _ (hdq.ext (Ext.refl _).drew)).mono ?_); rintro e w1 ⟨v1, rfl, hb1, hxA⟩; rw [sgn_tdiv, ← HQ.out] at hb1) | (go_at_call 59; (with_reducible refine (signed_any _ r _ _ _ ((hdr.ext (Ext.refl _).drew).ext hxA)).mono ?_); rintro e w2 ⟨v2, rfl, hb2, hxB⟩; rw [sgn_tmod, ← HR.out] at hb2; have hb1 := hb1.ext hxB; obtain ⟨A3, n3, c3, rfl, hd3, ht3⟩ := hb1.form; obtain ⟨A4, n4, c4, rfl, hd4, ht4⟩ := hb2.form; have b2 := (B2.drew.ext hxA).ext hxB; have q0 := b2.c0; have q1 := b2.c1; have f0 := b2.frozen 0; have f1 := b2.frozen 1; have b3 := (B3.drew.ext hxA).ext hxB; have r0 := b3.c0; have r1 := b3.c1; have g0 := b3.frozen 0; have g1 := b3.frozen 1))
  obtain ⟨w3, hw3, p1, p2, u1, u2, u3, u4⟩ := BigV.put2 (by omega) hb1 hb2 b2 b3
  have hfin : Ext w w3 := by rw [hw3]; exact KE.ext (R := [w.heap.size + 1 + 1, w.heap.size + 1 + 1 + 1]) (W0 := W0) (by assumption)
  go_wp2_with fail
  rw [← hw3]
  refine bodyPost_ret (v := .tuple #[.agg #[.bool (decide (Q < 0)), .slice A3 n3 c3], .agg #[.bool (decide (R < 0)), .slice A4 n4 c4], .int .i64 0]) (by simp [results, Tryz.results44, go_sem, u1, u2, u3, u4]) rfl ?_
  exact ⟨_, _, rfl, by rw [← HQ.out]; exact p1, by rw [← HR.out]; exact p2, hfin⟩

set_option maxHeartbeats 4000000 in
theorem Gcd_any (x y : Value) (X Y : Int) (L : Nat) (w : World) (hx : BigV w x X) (hy : BigV w y Y) (bx : X.natAbs < pw L) (bY : Y.natAbs < pw L) (hL : L ≤ 1099511627776) :
    Calls Tryz.prog 56 #[x, y] w (BigPost w (Nat.gcd X.natAbs Y.natAbs : Nat)) := by
  obtain ⟨A1, n1, c1, rfl, hd1, ht1⟩ := hx.form
  obtain ⟨A2, n2, c2, rfl, hd2, ht2⟩ := hy.form
  obtain ⟨G, hG⟩ : ∃ G, G = Nat.gcd X.natAbs Y.natAbs := ⟨_, rfl⟩
  rw [← hG]
  have HG := Lib.hid hG.symm
  clear hG
  go_enter Tryz.func56, Tryz.ntmps56
  go_wp2_with fail
  obtain ⟨B0, B1, B2, hE0⟩ := boxes3 w 26 #[.bool (decide (X < 0)), .slice A1 n1 c1] #[.bool (decide (Y < 0)), .slice A2 n2 c2] #[.bool false, .slice none 0 0]
  generalize (((w.alloc (.cells #[.bool (decide (X < 0)), .slice A1 n1 c1] 26)).alloc (.cells #[.bool (decide (Y < 0)), .slice A2 n2 c2] 26)).alloc (.cells #[.bool false, .slice none 0 0] 26)) = W0 at *
  have k00 := KE.c0 (w := w) B0 (show w.heap.size ∉ [w.heap.size + 1 + 1] by simp; omega)
  have k01 := KE.c1 (w := w) B0 (show w.heap.size ∉ [w.heap.size + 1 + 1] by simp; omega)
  have k10 := KE.c0 (w := w) B1 (show w.heap.size + 1 ∉ [w.heap.size + 1 + 1] by simp)
  have k11 := KE.c1 (w := w) B1 (show w.heap.size + 1 ∉ [w.heap.size + 1 + 1] by simp)
  have ks := KE.start (R := [w.heap.size + 1 + 1]) hE0 (by simp; omega)
  go_quiet (fail)
  go_wp2_with fail
  go_loopg [5, 6] (Y.natAbs) (fun g u v wr => ∃ (As Ct : Option Addr) (n m cs ct a b : Nat), u = .slice As n cs ∧ v = .slice Ct m ct ∧ Dig wr (.slice As n cs) n a ∧ Dig wr (.slice Ct m ct) m b ∧ Trm n a ∧ Trm m b ∧ a < pw L ∧ b < pw L ∧ Hid (Nat.gcd a b = G) ∧ b ≤ g ∧ Ext W0 wr)
  case atStart => exact ⟨A1, A2, n1, n2, c1, c2, _, _, rfl, rfl, hd1.ext (hE0.drewN _), hd2.ext (hE0.drewN _), ht1, ht2, bx, bY, HG, Nat.le_refl _, Ext.drewN_self _ _⟩
  case round =>
    obtain ⟨As, Ct, n, m, cs, ct, a, b, rfl, rfl, hda, hdb, hta, htb, ha, hb, HGab, hbg, hext⟩ := hrel
    have hm := htb.pos_iff hdb.inj.2.2.2.1
    have hn := hta.le ha
    have hm2 := htb.le hb
    by_cases h0 : 0 < m
    · have hb0 : 0 < b := hm.1 h0
      clear hm
      go_wp2_with fail
      refine (divide_any Tryz.bits_LeadingZeros32 _ _ _ _ _ _ _ hda hdb hta htb hb0 (by omega)).mono ?_
      rintro e w3 ⟨q, r, nq, nr, rfl, hdq, htq, hdr, htr, hxE⟩
      have hdr' := hdr
      obtain ⟨Ar, cr, rfl, _⟩ := hdr'
      have hlt := Nat.mod_lt a hb0
      go_wp2_with fail
      go_roundg (a % b)
      case measure => omega
      case rel => exact ⟨Ct, Ar, m, nr, ct, cr, b, a % b, rfl, rfl, hdb.ext hxE, hdr, htb, htr, hb, Nat.lt_trans hlt hb, Lib.hid (by rw [← HGab.out, Nat.gcd_comm a b, Nat.gcd_rec b a, Nat.gcd_comm]), Nat.le_refl _, hext.trans hxE⟩
    · obtain rfl : m = 0 := by omega
      have hb0 : b = 0 := by rcases Nat.eq_zero_or_pos b with h | h; exact h; exact absurd (hm.2 h) h0
      have haG : a = G := by have := HGab.out; rw [hb0, Nat.gcd_zero_right] at this; exact this
      have HA := Lib.hid haG
      clear haG hb0 hm
      go_wp2_with fail
      refine (signed_any _ _ _ _ _ hda).mono ?_
      rintro e w2 ⟨v2, rfl, hb2, hxB⟩
      rw [show sgn false a = (G : Int) by rw [HA.out]; rfl] at hb2
      obtain ⟨A3, n3, c3, rfl, hd3, ht3⟩ := hb2.form
      have HT : decide ((G : Int) < 0) = false := by simp
      rw [HT] at hb2 ⊢
      have b2 := (B2.ext hext).ext hxB
      have q0 := b2.c0
      have q1 := b2.c1
      have f0 := b2.frozen 0
      have f1 := b2.frozen 1
      go_wp2_with fail
      obtain ⟨p1, p2, p3⟩ := hb2.put b2
      refine bodyPost_ret (v := .agg #[.bool false, .slice A3 n3 c3]) (by simp [results, Tryz.results56, go_sem, p2, p3]) rfl ?_
      exact ⟨_, rfl, p1, (((hE0.trans hext).trans hxB).set (by simp; omega) _).set (by simp; omega) _⟩

end Go.Proofs.YtginogcdjplhiaaGreatDoor.Big
