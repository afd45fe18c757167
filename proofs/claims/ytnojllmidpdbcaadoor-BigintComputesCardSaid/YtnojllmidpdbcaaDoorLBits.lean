/- Walk: the law BigintBits. -/
import Derived.Test.YtnojllmidpdbcaaDoorLGcd
set_option linter.unusedVariables false
set_option linter.unusedSimpArgs false
namespace Go.Proofs.YtnojllmidpdbcaaDoor.Big
open Go.RowKit

theorem parse_small {s : ByteArray} (h : okT s = true) : ∃ m, m ≤ 320 ∧ (parseZ s.data.toList).natAbs < 2 ^ m := by
  unfold okT at h
  simp only [Bool.and_eq_true, decide_eq_true_eq] at h
  obtain ⟨h1, h2⟩ := h
  have h3 : digs (rest s.data.toList) = true := by
    unfold isDec at h2
    simp only [Bool.and_eq_true] at h2
    exact h2.1.2
  unfold parseZ
  rw [sgn_natAbs]
  have h4 := valD_lt h3
  have h6 := rest_len s.data.toList
  have h7 : s.data.toList.length = s.size := rfl
  refine ⟨4 * (rest s.data.toList).length, by omega, Nat.lt_of_lt_of_le h4 ?_⟩
  rw [Nat.pow_mul]
  exact Nat.pow_le_pow_left (by decide) _
theorem two_lt_pw {k j : Nat} (h : k < 32 * j) : 2 ^ k < pw j := by rw [pw_two]; exact Nat.pow_lt_pow_right (by decide) h
theorem bits_uniq {V n m : Nat} (hn : 1 ≤ n) (hm : 1 ≤ m) (h1 : 2 ^ (n - 1) ≤ V) (h2 : V < 2 ^ n) (h3 : 2 ^ (m - 1) ≤ V) (h4 : V < 2 ^ m) : n = m := by
  have k1 := (Nat.pow_lt_pow_iff_right (a := 2) (by omega)).1 (Nat.lt_of_le_of_lt h1 h4)
  have k2 := (Nat.pow_lt_pow_iff_right (a := 2) (by omega)).1 (Nat.lt_of_le_of_lt h3 h2)
  omega
theorem Bits_det (x : Value) (X : Int) (j : Nat) (w : World) (n : Nat) (hx : BigB w x X j) (hn : 1 ≤ n) (h1 : 2 ^ (n - 1) ≤ X.natAbs) (h2 : X.natAbs < 2 ^ n) (hL : j ≤ 1099511627776) :
    Calls Tryd.prog 26 #[x] w (IntPost w n) :=
  (Bits_any x X j w hx.1 hx.2 hL).mono fun _ _ ⟨nb, he, _, hb, hx⟩ => by
    have h0 := Nat.two_pow_pos (n - 1)
    obtain ⟨a, b, c⟩ := hb (by omega)
    rw [bits_uniq a hn b c h1 h2] at he
    exact ⟨he, hx⟩

set_option maxRecDepth 100000 in
set_option maxHeartbeats 8000000 in
theorem bits_law_any (s : ByteArray) (w : World) (htab : TabOK w) :
    Calls Tryd.prog 6 #[.string s] w (fun e w' => e = .returned (.bool true) ∧ Ext w w') := by
  go_enter Tryd.func6, Tryd.ntmps6
  go_wp2_with fail
  refine (awake_any _ htab).mono ?_
  rintro e w1 ⟨rfl, hx1⟩
  go_wp2_with fail
  obtain ⟨t, hzs⟩ : ∃ zs : ByteArray, zs = zeroS := ⟨_, rfl⟩
  rw [show (⟨#[48]⟩ : ByteArray) = t from hzs.symm]
  have HZS := Lib.hid hzs
  clear hzs
  refine (two_any s t _).mono ?_
  rintro e w2 ⟨v2, v3, X, Y, rfl, hX0, hY0, hXY, hx2⟩
  obtain ⟨p2, A2, k2, c2, rfl⟩ := hX0.shape
  obtain ⟨p3, A3, k3, c3, rfl⟩ := hY0.shape
  obtain ⟨o1, ho1⟩ : ∃ o, o = (okT s && okT t) := ⟨_, rfl⟩
  rw [← ho1]
  have HXY := Lib.hid hXY
  have HO1 := Lib.hid ho1
  clear hXY ho1
  go_upto_region 4 with fail
  obtain ⟨B7, B8, hE⟩ := boxes2 w2 25 #[.bool p2, .slice A2 k2 c2] #[.bool p3, .slice A3 k3 c3]
  have hX := hX0.ext hE
  have hY := hY0.ext hE
  have hE0 := (hx1.trans hx2).trans hE
  generalize ((w2.alloc (.cells #[.bool p2, .slice A2 k2 c2] 25)).alloc (.cells #[.bool p3, .slice A3 k3 c3] 25)) = W at *
  clear hE hx1 hx2 hX0 hY0
  have k70 : ∀ w', Ext W w' → w'.cell? ⟨w2.heap.size, 0, none⟩ = some (.bool p2) := fun w' h => (B7.ext h).c0
  have k71 : ∀ w', Ext W w' → w'.cell? ⟨w2.heap.size, 1, none⟩ = some (.slice A2 k2 c2) := fun w' h => (B7.ext h).c1
  have k80 : ∀ w', Ext W w' → w'.cell? ⟨w2.heap.size + 1, 0, none⟩ = some (.bool p3) := fun w' h => (B8.ext h).c0
  have k81 : ∀ w', Ext W w' → w'.cell? ⟨w2.heap.size + 1, 1, none⟩ = some (.slice A3 k3 c3) := fun w' h => (B8.ext h).c1
  have hS0 := Ext.refl W
  cases o1
  case false =>
    go_wp2_with fail
    go_ret
    exact ⟨rfl, hE0⟩
  have hos := HO1.out
  simp only [Bool.true_eq, Bool.and_eq_true] at hos
  have bX : B 80 X := by rw [(HXY.out hos.1 hos.2).1]; exact parse_bound hos.1
  have sX : ∃ m, m ≤ 320 ∧ X.natAbs < 2 ^ m := by rw [(HXY.out hos.1 hos.2).1]; exact parse_small hos.1
  obtain ⟨mx, hmx, sX⟩ := sX
  clear hos HXY HO1
  go_wp2_with fail
  refine (Bits_any _ X 80 _ (hX.ext hS0) bX (by decide)).mono ?_
  rintro e w3 ⟨nb, rfl, hb0, hb1, hx3⟩
  have hS3 := hS0.trans hx3
  go_wp2_with fail
  refine (Sign_any _ X _ (hX.ext hS3)).mono ?_
  rintro e w4 ⟨rfl, hx4⟩
  have hS4 := hS3.trans hx4
  by_cases hz : X = 0
  · have e1 : X.sign = 0 := by rw [hz]; rfl
    obtain rfl : nb = 0 := hb0 (by rw [hz]; rfl)
    clear hb0 hb1 hz sX
    go_wp2_with fail
    go_ret
    exact ⟨rfl, hE0.trans hS4⟩
  obtain ⟨n1, n2, n3⟩ := hb1 (by omega)
  have e1 : (X.sign == 0) = false := by simpa using hz
  have n4 : nb ≤ 320 := by
    have k1 := (Nat.pow_lt_pow_iff_right (a := 2) (by omega)).1 (Nat.lt_of_le_of_lt n2 sX)
    omega
  have N2 := Lib.hid n2
  have N3 := Lib.hid n3
  have HZ := Lib.hid hz
  clear hb0 hb1 n2 n3 sX hz
  have g1 : decide ((nb : Int) < 1) = false := by simp; omega
  have g2 : decide ((400 : Int) < (nb : Int)) = false := by simp; omega
  go_wp2_with fail
  refine (Of_any 1 _ (by decide) (by decide)).mono ?_
  rintro e w5 ⟨v5, rfl, hp, hx5⟩
  obtain ⟨p5, A5, k5, c5, rfl⟩ := hp.shape
  have hS5 := hS4.trans hx5
  go_wp2_with fail
  have Bp := Box.new w5 25 #[.bool p5, .slice A5 k5 c5]
  have hEp : Ext w5 (w5.alloc (.cells #[.bool p5, .slice A5 k5 c5] 25)) := (Ext.refl w5).alloc _
  have hp := hp.ext hEp
  generalize (w5.alloc (.cells #[.bool p5, .slice A5 k5 c5] 25)) = W5 at *
  go_loopw [34] (fun i wr => ∃ (k : Nat) (p : Bool) (A : Option Addr) (m c : Nat) (Z : Int), k ≤ nb - 1 ∧ i = .int .i64 k ∧ Box wr w5.heap.size 25 #[.bool p, .slice A m c] ∧ BigV wr (.agg #[.bool p, .slice A m c]) Z ∧ Hid (Z = ((2 ^ k : Nat) : Int)) ∧ Ext w5 wr) (fun i _ => nb - 1 - (intOf i).toNat)
  case atStart => exact ⟨0, _, _, _, _, 1, by omega, rfl, Bp, hp, Lib.hid rfl, hEp⟩
  case round =>
    obtain ⟨k, p, A, m, c, Z, hk, rfl, Bk, hZ, HZ2, hext⟩ := hrel
    have q0 := Bk.c0
    have q1 := Bk.c1
    by_cases hlt : k < nb - 1
    · have bZ : B 20 Z := by
        unfold B
        rw [HZ2.out, Int.natAbs_natCast]
        exact two_lt_pw (by omega)
      go_wp2_with fail
      refine (Add_any _ _ Z Z 20 _ hZ hZ bZ bZ (by decide)).mono ?_
      rintro e w6 ⟨v6, rfl, h6, hx6⟩
      obtain ⟨p6, A6, k6, c6, rfl⟩ := h6.shape
      have B6 := Bk.ext hx6
      have q0 := B6.c0
      have q1 := B6.c1
      have f0 := B6.frozen 0
      have f1 := B6.frozen 1
      go_wp2_with fail
      go_roundw
      case rel => exact ⟨k + 1, _, _, _, _, Z + Z, by omega, by go_num, B6.put2 _ _, (h6.put B6).1, Lib.hid (by rw [HZ2.out, Nat.pow_succ]; omega), ((hext.trans hx6).set (Nat.le_refl _) _).set (Nat.le_refl _) _⟩
      case measure => simp [intOf]; omega
    · obtain rfl : k = nb - 1 := by omega
      have bZ : B 20 Z := by
        unfold B
        rw [HZ2.out, Int.natAbs_natCast]
        exact two_lt_pw (by omega)
      have g3 : decide (cmpZ Z ((X.natAbs : Nat) : Int) ≤ 0) = true := by
        rw [HZ2.out]; unfold cmpZ
        have := N2.out
        split
        · rfl
        · rw [if_neg (by omega)]; rfl
      have g4 : cmpZ (Z + Z) ((X.natAbs : Nat) : Int) = 1 := by
        rw [HZ2.out]; unfold cmpZ
        have h1 := N3.out
        have h2 : 2 ^ nb = 2 ^ (nb - 1) * 2 := by rw [← Nat.pow_succ]; congr 1; omega
        rw [if_neg (by omega), if_pos (by omega)]
      obtain ⟨cz, hcz⟩ : ∃ c, c = cmpZ Z ((X.natAbs : Nat) : Int) := ⟨_, rfl⟩
      rw [← hcz] at g3
      replace hcz := hcz.symm
      have n5 : 2 ^ (nb - 1) ≤ (-X).natAbs := by rw [Int.natAbs_neg]; exact N2.out
      have n6 : (-X).natAbs < 2 ^ nb := by rw [Int.natAbs_neg]; exact N3.out
      have B3 := B7.ext (hS5.trans hext)
      have hEf := (hE0.trans hS5).trans hext
      have hXX : BigB wr _ X 80 := ⟨hX.ext (hS5.trans hext), bX⟩
      have hPP : BigB wr _ Z 20 := ⟨hZ, bZ⟩
      clear k70 k71 k80 k81 hS0 hS3 hS4 hS5 q0 q1 hX hY hZ bZ bX hext hE0
      have k30 : ∀ w', Later wr w' → w'.cell? ⟨w2.heap.size, 0, none⟩ = some (.bool p2) := fun w' h => (B3.ext h).c0
      have k31 : ∀ w', Later wr w' → w'.cell? ⟨w2.heap.size, 1, none⟩ = some (.slice A2 k2 c2) := fun w' h => (B3.ext h).c1
      have k50 : ∀ w', Later wr w' → w'.cell? ⟨w5.heap.size, 0, none⟩ = some (.bool p) := fun w' h => (Bk.ext h).c0
      have k51 : ∀ w', Later wr w' → w'.cell? ⟨w5.heap.size, 1, none⟩ = some (.slice A m c) := fun w' h => (Bk.ext h).c1
      have ks := Later.refl wr
      clear B3 Bk B7 B8 Bp
      go_upto_region 16 with fail
      go_region_held3 (fun w' => Later wr w') ((repeat (first | assumption | apply Later.drew | apply Later.drewN | apply Later.alloc | (refine Later.step ?_ (by assumption))))) (first
          | (go_at_call 24; (with_reducible refine (Add_b _ _ _ _ _ _ _ (BigB.ext (by assumption) (by repeat (first | (with_reducible exact Ext.refl _) | (with_reducible apply Ext.drew) | (with_reducible apply Ext.drewN) | (with_reducible refine Ext.trans ?_ (by assumption))))) (BigB.ext (by assumption) (by repeat (first | (with_reducible exact Ext.refl _) | (with_reducible apply Ext.drew) | (with_reducible apply Ext.drewN) | (with_reducible refine Ext.trans ?_ (by assumption))))) (by decide)).mono ?_); rintro e wk ⟨vk, rfl, hbk, hxk⟩; (obtain ⟨pk, Ak, nk, ck, rfl⟩ := hbk.1.shape))
          | (go_at_call 28; (with_reducible refine (Sub_b _ _ _ _ _ _ _ (BigB.ext (by assumption) (by repeat (first | (with_reducible exact Ext.refl _) | (with_reducible apply Ext.drew) | (with_reducible apply Ext.drewN) | (with_reducible refine Ext.trans ?_ (by assumption))))) (BigB.ext (by assumption) (by repeat (first | (with_reducible exact Ext.refl _) | (with_reducible apply Ext.drew) | (with_reducible apply Ext.drewN) | (with_reducible refine Ext.trans ?_ (by assumption))))) (by decide)).mono ?_); rintro e wk ⟨vk, rfl, hbk, hxk⟩; (obtain ⟨pk, Ak, nk, ck, rfl⟩ := hbk.1.shape))
          | (go_at_call 23; (with_reducible refine (Mul_b _ _ _ _ _ _ _ (BigB.ext (by assumption) (by repeat (first | (with_reducible exact Ext.refl _) | (with_reducible apply Ext.drew) | (with_reducible apply Ext.drewN) | (with_reducible refine Ext.trans ?_ (by assumption))))) (BigB.ext (by assumption) (by repeat (first | (with_reducible exact Ext.refl _) | (with_reducible apply Ext.drew) | (with_reducible apply Ext.drewN) | (with_reducible refine Ext.trans ?_ (by assumption))))) (by decide)).mono ?_); rintro e wk ⟨vk, rfl, hbk, hxk⟩; (obtain ⟨pk, Ak, nk, ck, rfl⟩ := hbk.1.shape))
          | (go_at_call 27; (with_reducible refine (Neg_b _ _ _ _ (BigB.ext (by assumption) (by repeat (first | (with_reducible exact Ext.refl _) | (with_reducible apply Ext.drew) | (with_reducible apply Ext.drewN) | (with_reducible refine Ext.trans ?_ (by assumption)))))).mono ?_); rintro e wk ⟨vk, rfl, hbk, hxk⟩; (obtain ⟨pk, Ak, nk, ck, rfl⟩ := hbk.1.shape))
          | (go_at_call 25; (with_reducible refine (abs_b _ _ _ _ (BigB.ext (by assumption) (by repeat (first | (with_reducible exact Ext.refl _) | (with_reducible apply Ext.drew) | (with_reducible apply Ext.drewN) | (with_reducible refine Ext.trans ?_ (by assumption)))))).mono ?_); rintro e wk ⟨vk, rfl, hbk, hxk⟩; (obtain ⟨pk, Ak, nk, ck, rfl⟩ := hbk.1.shape))
          | (go_at_call 20; (with_reducible refine (Cmp_eqb _ _ _ _ _ _ _ (BigB.ext (by assumption) (by repeat (first | (with_reducible exact Ext.refl _) | (with_reducible apply Ext.drew) | (with_reducible apply Ext.drewN) | (with_reducible refine Ext.trans ?_ (by assumption))))) (BigB.ext (by assumption) (by repeat (first | (with_reducible exact Ext.refl _) | (with_reducible apply Ext.drew) | (with_reducible apply Ext.drewN) | (with_reducible refine Ext.trans ?_ (by assumption))))) (by first | exact Int.add_comm _ _ | exact Int.mul_comm _ _ | exact Int.add_assoc _ _ _ | exact Int.mul_assoc _ _ _ | exact Int.mul_add _ _ _ | exact Int.sub_eq_add_neg | assumption | exact rfl)).mono ?_); rintro e wk ⟨rfl, hxk⟩)
          | (go_at_call 20; (with_reducible refine (Cmp_b _ _ _ _ _ _ _ (BigB.ext (by assumption) (by repeat (first | (with_reducible exact Ext.refl _) | (with_reducible apply Ext.drew) | (with_reducible apply Ext.drewN) | (with_reducible refine Ext.trans ?_ (by assumption))))) (BigB.ext (by assumption) (by repeat (first | (with_reducible exact Ext.refl _) | (with_reducible apply Ext.drew) | (with_reducible apply Ext.drewN) | (with_reducible refine Ext.trans ?_ (by assumption)))))).mono ?_); rintro e wk ⟨rfl, hxk⟩)
          | (go_at_call 16; (with_reducible refine (Sign_b _ _ _ _ (BigB.ext (by assumption) (by repeat (first | (with_reducible exact Ext.refl _) | (with_reducible apply Ext.drew) | (with_reducible apply Ext.drewN) | (with_reducible refine Ext.trans ?_ (by assumption)))))).mono ?_); rintro e wk ⟨rfl, hxk⟩)
          | (go_at_call 26; (with_reducible refine (Bits_det _ _ _ _ nb (BigB.ext (by assumption) (by repeat (first | (with_reducible exact Ext.refl _) | (with_reducible apply Ext.drew) | (with_reducible apply Ext.drewN) | (with_reducible refine Ext.trans ?_ (by assumption))))) n1 n5 n6 (by decide)).mono ?_); rintro e wk ⟨rfl, hxk⟩)
        )
      all_goals go_wp2_with fail
      all_goals go_ret
      all_goals exact ⟨rfl, hEf.trans (show Later wr _ by first | assumption | (apply Later.drew; assumption) | (apply Later.drewN; assumption))⟩
end Go.Proofs.YtnojllmidpdbcaaDoor.Big
