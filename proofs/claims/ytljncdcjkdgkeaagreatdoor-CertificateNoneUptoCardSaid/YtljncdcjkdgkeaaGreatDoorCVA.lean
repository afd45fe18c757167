/- Walks: Leaf and Empty of the certificate. -/
import Derived.Test.YtljncdcjkdgkeaaGreatDoorCV9
set_option linter.unusedVariables false
set_option linter.unusedSimpArgs false
namespace Go.Proofs.YtljncdcjkdgkeaaGreatDoor.Lp
open Go.RowKit Go.Proofs.YtljncdcjkdgkeaaGreatDoor.Big Go.Proofs.YtljncdcjkdgkeaaGreatDoor.Rt

def leafB (p : Prob) (ny : Nat) (y : Nat → Rat) (z : Rat) : Bool := validB p && (bndB p ny y && decide (p.rhs y ≤ z))
def empB (p : Prob) (ny : Nat) (y : Nat → Rat) : Bool := validB p && pntB p ny y
set_option maxHeartbeats 8000000 in
set_option maxRecDepth 100000 in
theorem Empty_b (v : Value) (p : Prob) (Ay : Option Addr) (ny cy : Nat) (y : Nat → Rat) (Kc Kr Ky T : Nat) (w : World) (hv : ProbV w v p) (hy : RatsV w Ay ny cy y)
    (hc : ∀ i, i < p.m → ∀ j, j < p.n → QB Kc (p.coef i j)) (hr : ∀ i, i < p.m → QB Kr (p.right i)) (hq : ∀ j, j < ny → QB Ky (y j)) (hT : 1 + p.m * (Kc + Kr + Ky + 1) ≤ T) (hT2 : T ≤ 137438953472) (hT3 : Kc + Kr + Ky ≤ 137438953472) :
    Calls Tryz.prog 55 #[v, .slice Ay ny cy] w (ValPost w (.bool (empB p ny y))) := by
  have hv0 := hv
  obtain ⟨Ao, co, Ar, cr, rfl, -⟩ := hv0
  have HC := Lib.hid hc
  have HR := Lib.hid hr
  have HY := Lib.hid hq
  have HT := Lib.hid hT
  clear hc hr hq hT
  obtain ⟨F, hF⟩ : ∃ F, F = empB p ny y := ⟨_, rfl⟩
  obtain ⟨B, hB⟩ : ∃ F, F = validB p := ⟨_, rfl⟩
  have HF : Hid (F = (B && pntB p ny y)) := Lib.hid (by rw [hF, hB]; rfl)
  rw [← hF]
  clear hF
  have PB := Box.new w 41 #[.slice Ao p.n co, .slice Ar p.m cr]
  have hE0 : Ext w (w.alloc (.cells #[.slice Ao p.n co, .slice Ar p.m cr] 41)) := (Ext.refl w).alloc _
  go_enter Tryz.func55, Tryz.ntmps55
  go_upto_region 1 with fail
  generalize (w.alloc (.cells #[.slice Ao p.n co, .slice Ar p.m cr] 41)) = V at *
  have c0 := PB.c0
  have c1 := PB.c1
  have hvV := hv.ext hE0
  go_wp2_with fail
  refine (Valid_b _ p _ hvV).mono ?_
  rintro e w1 ⟨rfl, hx1⟩
  have hE1 := hE0.trans hx1
  have hv1 := hv.ext hE1
  have hy1 := hy.ext hE1
  have PB := PB.ext hx1
  have c0 := PB.c0
  have c1 := PB.c1
  rw [← hB]
  cases B with
  | false =>
    clear hB
    go_wp2_with fail
    go_ret
    exact ⟨by rw [HF.out]; rfl, hE1⟩
  | true =>
    have HV : Hid (validB p = true) := Lib.hid hB.symm
    clear hB
    go_wp2_with fail
    refine (pointless_b _ p Ay ny cy y Kc Kr Ky T _ hv1 HV.out hy1 HC.out HR.out HY.out HT.out hT2 hT3).mono ?_
    rintro e w2 ⟨rfl, hx2⟩
    obtain ⟨P, hP⟩ : ∃ P, P = pntB p ny y := ⟨_, rfl⟩
    rw [← hP] at HF ⊢
    clear hP c0 c1
    go_wp2_with fail
    go_ret
    exact ⟨by rw [HF.out]; cases P <;> rfl, hE1.trans hx2⟩
set_option maxHeartbeats 8000000 in
set_option maxRecDepth 100000 in
theorem Leaf_b (v : Value) (p : Prob) (vz : Value) (z : Rat) (Ay : Option Addr) (ny cy : Nat) (y : Nat → Rat) (Kc Kr Ko Ky Kz T : Nat) (w : World) (hv : ProbV w v p) (hz : RatB w vz z Kz) (hy : RatsV w Ay ny cy y)
    (hc : ∀ i, i < p.m → ∀ j, j < p.n → QB Kc (p.coef i j)) (hr : ∀ i, i < p.m → QB Kr (p.right i)) (ho : ∀ j, j < p.n → QB Ko (p.obj j)) (hq : ∀ j, j < ny → QB Ky (y j)) (hT : 1 + p.m * (Kc + Kr + Ky + 1) ≤ T) (hT2 : T ≤ 137438953472) (hT3 : Kc + Kr + Ky ≤ 137438953472) (hT4 : Ko ≤ 137438953472) (hT5 : Kz ≤ 137438953472) :
    Calls Tryz.prog 30 #[v, vz, .slice Ay ny cy] w (ValPost w (.bool (leafB p ny y z))) := by
  have hv0 := hv
  obtain ⟨Ao, co, Ar, cr, rfl, -⟩ := hv0
  obtain ⟨zp, zA, zn, zc, zp', zA', zn', zc', rfl⟩ := hz.1.shape
  have HC := Lib.hid hc
  have HR := Lib.hid hr
  have HO := Lib.hid ho
  have HY := Lib.hid hq
  have HT := Lib.hid hT
  clear hc hr ho hq hT
  obtain ⟨F, hF⟩ : ∃ F, F = leafB p ny y z := ⟨_, rfl⟩
  obtain ⟨B, hB⟩ : ∃ F, F = validB p := ⟨_, rfl⟩
  have HF : Hid (F = (B && (bndB p ny y && decide (p.rhs y ≤ z)))) := Lib.hid (by rw [hF, hB]; rfl)
  rw [← hF]
  clear hF
  obtain ⟨PB, ZB, hE0⟩ := boxesT2 w 41 58 #[.slice Ao p.n co, .slice Ar p.m cr] #[.bool zp, .slice zA zn zc, .bool zp', .slice zA' zn' zc']
  go_enter Tryz.func30, Tryz.ntmps30
  go_upto_region 1 with fail
  generalize ((w.alloc (.cells #[.slice Ao p.n co, .slice Ar p.m cr] 41)).alloc (.cells #[.bool zp, .slice zA zn zc, .bool zp', .slice zA' zn' zc'] 58)) = V at *
  have c0 := PB.c0
  have c1 := PB.c1
  have hvV := hv.ext hE0
  go_wp2_with fail
  refine (Valid_b _ p _ hvV).mono ?_
  rintro e w1 ⟨rfl, hx1⟩
  have hE1 := hE0.trans hx1
  have hv1 := hv.ext hE1
  have hy1 := hy.ext hE1
  have PB := PB.ext hx1
  have ZB := ZB.ext hx1
  have c0 := PB.c0
  have c1 := PB.c1
  rw [← hB]
  cases B with
  | false =>
    clear hB
    go_wp2_with fail
    go_ret
    exact ⟨by rw [HF.out]; rfl, hE1⟩
  | true =>
    have HV : Hid (validB p = true) := Lib.hid hB.symm
    clear hB
    go_wp2_with fail
    refine (bounded_b _ p Ay ny cy y Kc Kr Ko Ky T _ hv1 HV.out hy1 HC.out HR.out HO.out HY.out HT.out hT2 hT3 hT4).mono ?_
    rintro e w2 ⟨hcase, hx2⟩
    have hE2 := hE1.trans hx2
    have ZB := ZB.ext hx2
    clear c0 c1 PB
    rcases hcase with ⟨hb, rfl⟩ | ⟨hb, q, A, n1, c, q', A', n1', c', rfl, hS⟩
    · have HE : Hid (F = false) := Lib.hid (by rw [HF.out, hb]; rfl)
      clear hb
      go_upto_region 4 with fail
      have hx6 : Ext w2 (w2.alloc (.cells #[.bool false, .slice none 0 0, .bool false, .slice none 0 0] 58)) := (Ext.refl w2).alloc _
      generalize (w2.alloc (.cells #[.bool false, .slice none 0 0, .bool false, .slice none 0 0] 58)) = U at *
      go_wp2_with fail
      go_ret
      exact ⟨by rw [HE.out]; rfl, hE2.trans hx6⟩
    · have HE : Hid (F = decide (p.rhs y ≤ z)) := Lib.hid (by rw [HF.out, hb]; rfl)
      clear hb
      go_upto_region 4 with fail
      have B8 := Box.new w2 58 #[.bool q, .slice A n1 c, .bool q', .slice A' n1' c']
      have hx6 : Ext w2 (w2.alloc (.cells #[.bool q, .slice A n1 c, .bool q', .slice A' n1' c'] 58)) := (Ext.refl w2).alloc _
      generalize (w2.alloc (.cells #[.bool q, .slice A n1 c, .bool q', .slice A' n1' c'] 58)) = U at *
      have ZB := ZB.ext hx6
      have hE3 := hE2.trans hx6
      have hS := hS.ext hx6
      have hz3 := hz.ext hE3
      have x0 := B8.c0
      have x1 := B8.c1
      have x2 := B8.c2
      have x3 := B8.c3
      have y0 := ZB.c0
      have y1 := ZB.c1
      have y2 := ZB.c2
      have y3 := ZB.c3
      go_wp2_with fail
      refine (RatCmp_b _ _ _ _ _ _ _ hS hz3 (by omega)).mono ?_
      rintro e w9 ⟨rfl, hx9⟩
      obtain ⟨S, hS⟩ : ∃ S, S = decide (p.rhs y ≤ z) := ⟨_, rfl⟩
      obtain ⟨cq, hcq⟩ : ∃ c, c = cmpQ (p.rhs y) z := ⟨_, rfl⟩
      have e9 : decide (cq ≤ 0) = S := by
        rw [hcq, hS]
        rcases cmpQ_cases (p.rhs y) z with ⟨a, b⟩ | ⟨a, b⟩ | ⟨a, b⟩ <;> rw [b]
        · have : p.rhs y ≤ z := Rat.le_of_lt a
          simp [this]
        · have : p.rhs y ≤ z := by rw [a]; exact Rat.le_refl
          simp [this]
        · have : ¬ p.rhs y ≤ z := Rat.not_le.2 a
          simp [this]
      rw [← hcq]
      rw [← hS] at HE
      clear hcq hS x0 x1 x2 x3 y0 y1 y2 y3
      go_wp2_with fail
      go_ret
      exact ⟨by rw [HE.out]; cases S <;> rfl, hE3.trans hx9⟩
end Go.Proofs.YtljncdcjkdgkeaaGreatDoor.Lp
