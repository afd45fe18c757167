/- Walk: pointless of the certificate. -/
import Derived.Test.YtljncdcjkdgkeaaGreatDoorCV7
set_option linter.unusedVariables false
set_option linter.unusedSimpArgs false
namespace Go.Proofs.YtljncdcjkdgkeaaGreatDoor.Lp
open Go.RowKit Go.Proofs.YtljncdcjkdgkeaaGreatDoor.Big Go.Proofs.YtljncdcjkdgkeaaGreatDoor.Rt

def pntB (p : Prob) (ny : Nat) (y : Nat → Rat) : Bool := combB p ny y && (decide (p.rhs y < 0) && nnB (p.left y) p.n)
theorem nnB_congr {f g : Nat → Rat} {n : Nat} (h : ∀ j, j < n → f j = g j) : nnB f n = nnB g n := by
  induction n with
  | zero => rfl
  | succ k ih => show (nnB f k && _) = (nnB g k && _); rw [ih (fun j hj => h j (by omega)), h k (by omega)]
set_option maxHeartbeats 8000000 in
set_option maxRecDepth 100000 in
theorem pointless_b (v : Value) (p : Prob) (Ay : Option Addr) (ny cy : Nat) (y : Nat → Rat) (Kc Kr Ky T : Nat) (w : World) (hv : ProbV w v p) (hval : validB p = true) (hy : RatsV w Ay ny cy y)
    (hc : ∀ i, i < p.m → ∀ j, j < p.n → QB Kc (p.coef i j)) (hr : ∀ i, i < p.m → QB Kr (p.right i)) (hq : ∀ j, j < ny → QB Ky (y j)) (hT : 1 + p.m * (Kc + Kr + Ky + 1) ≤ T) (hT2 : T ≤ 137438953472) (hT3 : Kc + Kr + Ky ≤ 137438953472) :
    Calls Tryz.prog 50 #[v, .slice Ay ny cy] w (ValPost w (.bool (pntB p ny y))) := by
  have hv0 := hv
  obtain ⟨Ao, co, Ar, cr, rfl, -⟩ := hv0
  have hp := validB_iff.1 hval
  have HC := Lib.hid hc
  have HR := Lib.hid hr
  have HY := Lib.hid hq
  have HT := Lib.hid hT
  have HV := Lib.hid hval
  clear hc hr hq hT hval
  obtain ⟨F, hF⟩ : ∃ F, F = pntB p ny y := ⟨_, rfl⟩
  have HF : Hid (F = (combB p ny y && (decide (p.rhs y < 0) && nnB (p.left y) p.n))) := Lib.hid (by rw [hF]; rfl)
  rw [← hF]
  obtain ⟨n, hn⟩ : ∃ n, n = p.n := ⟨_, rfl⟩
  obtain ⟨m, hm⟩ : ∃ n, n = p.m := ⟨_, rfl⟩
  have hnb : n ≤ 1000 := by rw [hn]; exact hp.2.1
  rw [← hn] at HF
  have HN := Lib.hid hn
  rw [← hn, ← hm] at hv ⊢
  clear hp hF hn hm
  have PB := Box.new w 41 #[.slice Ao n co, .slice Ar m cr]
  have hE0 : Ext w (w.alloc (.cells #[.slice Ao n co, .slice Ar m cr] 41)) := (Ext.refl w).alloc _
  go_enter Tryz.func50, Tryz.ntmps50
  go_upto_region 1 with fail
  generalize (w.alloc (.cells #[.slice Ao n co, .slice Ar m cr] 41)) = V at *
  have c0 := PB.c0
  have c1 := PB.c1
  have hvV := hv.ext hE0
  go_wp2_with fail
  refine (combineC_b _ p Ay ny cy y Kc Kr Ky T _ hvV HV.out (hy.ext hE0) HC.out HR.out HY.out HT.out hT2 hT3).mono ?_
  rintro e w1 ⟨hcase, hx1⟩
  have hE1 := hE0.trans hx1
  clear hx1 hvV
  rcases hcase with ⟨hcb, rfl⟩ | ⟨hcb, bl, q, A, n1, c, q', A', n1', c', f, z, rfl, hL, hZ, hB, hlf, hrh⟩
  · have HE : Hid (F = false) := Lib.hid (by rw [HF.out, hcb]; rfl)
    clear hcb c0 c1 PB
    go_upto_region 2 with fail
    have hx6 : Ext w1 (w1.alloc (.cells #[.bool false, .slice none 0 0, .bool false, .slice none 0 0] 58)) := (Ext.refl w1).alloc _
    generalize (w1.alloc (.cells #[.bool false, .slice none 0 0, .bool false, .slice none 0 0] 58)) = U at *
    go_wp2_with fail
    go_ret
    exact ⟨by rw [HE.out]; rfl, hE1.trans hx6⟩
  · rw [← HN.out] at hL hB hlf ⊢
    have HFE : Hid (F = (decide (z < 0) && nnB f n)) := Lib.hid (by rw [HF.out, hcb, ← hrh, nnB_congr hlf]; rfl)
    have HB := Lib.hid hB
    clear hcb hlf hrh hB c0 c1 PB
    go_upto_region 2 with fail
    have B6 := Box.new w1 58 #[.bool q, .slice A n1 c, .bool q', .slice A' n1' c']
    have hx6 : Ext w1 (w1.alloc (.cells #[.bool q, .slice A n1 c, .bool q', .slice A' n1' c'] 58)) := (Ext.refl w1).alloc _
    generalize (w1.alloc (.cells #[.bool q, .slice A n1 c, .bool q', .slice A' n1' c'] 58)) = U at *
    obtain ⟨b6, hb6⟩ : ∃ x, x = w1.heap.size := ⟨_, rfl⟩
    rw [← hb6] at B6 ⊢
    clear hb6
    have hL := hL.ext hx6
    have hZ := hZ.ext hx6
    have hE2 := hE1.trans hx6
    clear hx6 hE0 hE1
    have x0 := B6.c0
    have x1 := B6.c1
    have x2 := B6.c2
    have x3 := B6.c3
    go_wp2_with fail
    refine (RatSign_b _ z T _ hZ).mono ?_
    rintro e w3 ⟨rfl, hx3⟩
    have ev : decide (0 ≤ z.num.sign) = !decide (z < 0) := by
      rcases sign_cases z.num with ⟨a, b⟩ | ⟨a, b⟩ | ⟨a, b⟩ <;> rw [b]
      · have := num_neg.2 a; simp; grind
      · have := Rat.num_eq_zero.1 a; simp; grind
      · have := num_pos.2 a; simp; grind
    obtain ⟨S, hS⟩ : ∃ S, S = decide (z < 0) := ⟨_, rfl⟩
    obtain ⟨g, hg⟩ : ∃ g, g = z.num.sign := ⟨_, rfl⟩
    rw [← hS] at ev HFE
    rw [← hg] at ev ⊢
    have hL := hL.ext hx3
    have hE3 := hE2.trans hx3
    clear hS hg x0 x1 x2 x3 B6 hZ hx3 hE2
    cases S with
    | false =>
      go_wp2_with fail
      go_ret
      exact ⟨by rw [HFE.out]; rfl, hE3⟩
    | true =>
      go_wp2_with fail
      go_loopw [26] (fun i wr => ∃ j : Nat, j ≤ n ∧ i = .int .i64 j ∧ Hid (nnB f j = true) ∧ Ext w3 wr) (fun i _ => n - (intOf i).toNat)
      case atStart => exact ⟨0, by omega, rfl, Lib.hid rfl, Ext.refl w3⟩
      case round =>
        obtain ⟨j, hj, rfl, HJ, hx⟩ := hrel
        by_cases hlt : j < n
        · obtain ⟨p3, A3, m3, c3, p3', A3', m3', c3', a0, a1, a2, a3, hr3⟩ := (hL.ext hx).at hlt
          obtain ⟨X, hX⟩ : ∃ X, X = f j := ⟨_, rfl⟩
          have HXB := Lib.hid (HB.out j hlt)
          rw [← hX] at hr3 HXB
          have HNO : Hid (decide (X < 0) = true → F = false) := Lib.hid (fun h => by
            rw [HFE.out]
            cases e : nnB f n with
            | false => rfl
            | true =>
              have := nnB_iff.1 e j hlt
              rw [← hX] at this
              exact absurd (of_decide_eq_true h) (Rat.not_lt.2 this))
          have HYE : Hid (decide (X < 0) = false → nnB f (j + 1) = true) := Lib.hid (fun h => by
            show (nnB f j && decide (0 ≤ f j)) = true
            rw [HJ.out, ← hX]
            simpa using Rat.not_lt.1 (of_decide_eq_false h))
          clear hX
          go_upto_region 7 with fail
          have Bx := Box.new wr 58 #[.bool p3, .slice A3 m3 c3, .bool p3', .slice A3' m3' c3']
          have hEx : Ext wr (wr.alloc (.cells #[.bool p3, .slice A3 m3 c3, .bool p3', .slice A3' m3' c3'] 58)) := (Ext.refl wr).alloc _
          generalize (wr.alloc (.cells #[.bool p3, .slice A3 m3 c3, .bool p3', .slice A3' m3' c3'] 58)) = X1 at *
          have hx := hx.trans hEx
          have hr3 := hr3.ext hEx
          have x0 := Bx.c0
          have x1 := Bx.c1
          have x2 := Bx.c2
          have x3 := Bx.c3
          clear a0 a1 a2 a3 hEx
          go_wp2_with fail
          refine (RatSign_b _ X T _ ⟨hr3, HXB.out⟩).mono ?_
          rintro e w4 ⟨rfl, hx4⟩
          have ev : decide (X.num.sign < 0) = decide (X < 0) := by
            rcases sign_cases X.num with ⟨a, b⟩ | ⟨a, b⟩ | ⟨a, b⟩ <;> rw [b]
            · have := num_neg.2 a; simp; grind
            · have := Rat.num_eq_zero.1 a; simp; grind
            · have := num_pos.2 a; simp; grind
          obtain ⟨S, hS⟩ : ∃ S, S = decide (X < 0) := ⟨_, rfl⟩
          obtain ⟨g, hg⟩ : ∃ g, g = X.num.sign := ⟨_, rfl⟩
          rw [← hS] at ev HNO HYE
          rw [← hg] at ev ⊢
          have hxx := hx.trans hx4
          clear hS hg x0 x1 x2 x3 Bx hr3 hx hx4
          cases S with
          | false =>
            have HN1 : Hid (nnB f (j + 1) = true) := Lib.hid (HYE.out rfl)
            clear HYE HNO
            go_wp2_with fail
            go_roundw
            case rel => first | exact ⟨j + 1, by omega, by go_num, HN1, hxx⟩ | ((repeat (apply Exists.intro (α := Value))); exact ⟨⟨j + 1, by omega, by go_num, HN1, hxx⟩, rfl⟩)
            case measure => simp [intOf]; omega
          | true =>
            have HE : Hid (F = false) := Lib.hid (HNO.out rfl)
            clear HYE HNO
            go_wp2_with fail
            go_ret
            exact ⟨by rw [HE.out]; rfl, hE3.trans hxx⟩
        · obtain rfl : j = n := by omega
          have HE : Hid (F = true) := Lib.hid (by rw [HFE.out, HJ.out]; rfl)
          go_wp2_with fail
          go_ret
          exact ⟨by rw [HE.out]; rfl, hE3.trans hx⟩
end Go.Proofs.YtljncdcjkdgkeaaGreatDoor.Lp
