/- Walk: the law helper awake. -/
import Derived.Test.YtginogcdjplhiaaGreatDoorT9
set_option linter.unusedVariables false
set_option linter.unusedSimpArgs false
namespace Go.Proofs.YtginogcdjplhiaaGreatDoor.Rt
open Go.RowKit Go.Proofs.YtginogcdjplhiaaGreatDoor.Big
open Go.Lib (itoa)

def s12 : ByteArray := ⟨#[49, 47, 50]⟩
def s13 : ByteArray := ⟨#[49, 47, 51]⟩
theorem s12_rat : isRat s12.data.toList = true := by decide +kernel
theorem s13_rat : isRat s13.data.toList = true := by decide +kernel
theorem it3 : itoa (-3) = [45, 51] := by simp [Lib.itoa, Lib.decDigits]
theorem it2 : itoa (2) = [50] := by simp [Lib.itoa, Lib.decDigits]
theorem it5 : itoa (5) = [53] := by simp [Lib.itoa, Lib.decDigits]
theorem it6 : itoa (6) = [54] := by simp [Lib.itoa, Lib.decDigits]
theorem itm2 : itoa (-2) = [45, 50] := by simp [Lib.itoa, Lib.decDigits]
theorem itm1 : itoa (-1) = [45, 49] := by simp [Lib.itoa, Lib.decDigits]
theorem tx1 : ratText (Rat.divInt 6 (-4)) = [45, 51, 47, 50] := by
  have h1 : (Rat.divInt 6 (-4)).num = -3 := by decide +kernel
  have h2 : (Rat.divInt 6 (-4)).den = 2 := by decide +kernel
  unfold ratText
  rw [h1, h2, if_neg (by decide), it3, show ((2 : Nat) : Int) = 2 from rfl, it2]; rfl
theorem fl1 : floorZ (Rat.divInt 6 (-4)) = -2 := by decide +kernel
theorem ce1 : ceilZ (Rat.divInt 6 (-4)) = -1 := by decide +kernel
theorem tx2 : ratText (parseQ s12.data.toList + parseQ s13.data.toList) = [53, 47, 54] := by
  have h1 : (parseQ s12.data.toList + parseQ s13.data.toList).num = 5 := by decide +kernel
  have h2 : (parseQ s12.data.toList + parseQ s13.data.toList).den = 6 := by decide +kernel
  unfold ratText
  rw [h1, h2, if_neg (by decide), it5, show ((6 : Nat) : Int) = 6 from rfl, it6]; rfl

set_option maxRecDepth 100000 in
set_option maxHeartbeats 8000000 in
theorem RatAwake_any (w : World) (htab : TabOK w) (hmx : MxOK w) : Calls Tryz.prog 4 #[] w (fun e w' => e = .returned (.bool true) ∧ Ext w w') := by
  obtain ⟨Q1, hQ1⟩ : ∃ q, q = Rat.divInt 6 (-4) := ⟨_, rfl⟩
  have HT1 := Lib.hid (show ratText Q1 = [45, 51, 47, 50] by rw [hQ1]; exact tx1)
  have HF1 := Lib.hid (show floorZ Q1 = -2 by rw [hQ1]; exact fl1)
  have HC1 := Lib.hid (show ceilZ Q1 = -1 by rw [hQ1]; exact ce1)
  obtain ⟨S12, hS12⟩ : ∃ S, S = s12 := ⟨_, rfl⟩
  obtain ⟨S13, hS13⟩ : ∃ S, S = s13 := ⟨_, rfl⟩
  have HT2 := Lib.hid (show ratText (parseQ S12.data.toList + parseQ S13.data.toList) = [53, 47, 54] by rw [hS12, hS13]; exact tx2)
  have HQ1 := Lib.hid hQ1
  have HS12 := Lib.hid (show (⟨#[49, 47, 50]⟩ : ByteArray) = S12 from hS12.symm)
  have HS13 := Lib.hid (show (⟨#[49, 47, 51]⟩ : ByteArray) = S13 from hS13.symm)
  have HR12 := Lib.hid (show isRat S12.data.toList = true by rw [hS12]; exact s12_rat)
  have HR13 := Lib.hid (show isRat S13.data.toList = true by rw [hS13]; exact s13_rat)
  have n12 : S12.size = 3 := by rw [hS12]; rfl
  have n13 : S13.size = 3 := by rw [hS13]; rfl
  have N12 := Lib.hid n12
  have N13 := Lib.hid n13
  clear hQ1 hS12 hS13 n12 n13
  go_enter Tryz.func4, Tryz.ntmps4
  go_wp2_with fail
  refine (Frac_b 6 (-4) _ (by decide) (by decide) (by decide) (by decide) (by decide)).mono ?_
  rintro e w1 ⟨v1, rfl, h1, hx1⟩
  rw [← HQ1.out] at h1
  obtain ⟨p1, A1, n1, c1, p1', A1', n1', c1', rfl⟩ := h1.1.shape
  go_upto_region 2 with fail
  have hx2 : Ext w1 (w1.alloc (.cells #[.bool p1, .slice A1 n1 c1, .bool p1', .slice A1' n1' c1'] 28)) := (Ext.refl w1).alloc _
  have B1 := Box.new w1 28 #[.bool p1, .slice A1 n1 c1, .bool p1', .slice A1' n1' c1']
  have h1 := h1.ext hx2
  have hE2 := hx1.trans hx2
  generalize (w1.alloc (.cells #[.bool p1, .slice A1 n1 c1, .bool p1', .slice A1' n1' c1'] 28)) = W2 at *
  clear hx1 hx2
  rw [HS12.out]
  go_wp2_with fail
  refine (RatParse_b S12 3 _ (by rw [N12.out]; decide) (by rw [N12.out]; decide) (by decide) (by decide) (hmx.ext hE2)).mono ?_
  rintro e w3 ⟨v3, X3, rfl, h3, hX3, hx3⟩
  rw [HR12.out]
  have hX3 := hX3 HR12.out
  obtain ⟨p3, A3, n3, c3, p3', A3', n3', c3', rfl⟩ := h3.1.shape
  have HX3 := Lib.hid hX3
  clear hX3
  go_upto_region 3 with fail
  have hx4 : Ext w3 (w3.alloc (.cells #[.bool p3, .slice A3 n3 c3, .bool p3', .slice A3' n3' c3'] 28)) := (Ext.refl w3).alloc _
  have B3 := Box.new w3 28 #[.bool p3, .slice A3 n3 c3, .bool p3', .slice A3' n3' c3']
  have h3 := h3.ext hx4
  have h1 := (h1.ext hx3).ext hx4
  have B1 := (B1.ext hx3).ext hx4
  have hE4 := (hE2.trans hx3).trans hx4
  generalize (w3.alloc (.cells #[.bool p3, .slice A3 n3 c3, .bool p3', .slice A3' n3' c3'] 28)) = W4 at *
  clear hx3 hx4 hE2
  rw [HS13.out]
  go_wp2_with fail
  refine (RatParse_b S13 3 _ (by rw [N13.out]; decide) (by rw [N13.out]; decide) (by decide) (by decide) (hmx.ext hE4)).mono ?_
  rintro e w5 ⟨v5, X5, rfl, h5, hX5, hx5⟩
  rw [HR13.out]
  have hX5 := hX5 HR13.out
  obtain ⟨p5, A5, n5, c5, p5', A5', n5', c5', rfl⟩ := h5.1.shape
  have HX5 := Lib.hid hX5
  clear hX5
  go_upto_region 4 with fail
  have hx6 : Ext w5 (w5.alloc (.cells #[.bool p5, .slice A5 n5 c5, .bool p5', .slice A5' n5' c5'] 28)) := (Ext.refl w5).alloc _
  have B5 := Box.new w5 28 #[.bool p5, .slice A5 n5 c5, .bool p5', .slice A5' n5' c5']
  have h5 := h5.ext hx6
  have h3 := (h3.ext hx5).ext hx6
  have h1 := (h1.ext hx5).ext hx6
  have B1 := (B1.ext hx5).ext hx6
  have B3 := (B3.ext hx5).ext hx6
  have hE6 := (hE4.trans hx5).trans hx6
  generalize (w5.alloc (.cells #[.bool p5, .slice A5 n5 c5, .bool p5', .slice A5' n5' c5'] 28)) = W6 at *
  clear hx5 hx6 hE4
  have hTab := htab.ext hE6
  have q0 := B1.c0
  have q1 := B1.c1
  have q2 := B1.c2
  have q3 := B1.c3
  go_wp2_with fail
  refine (RatText_b _ _ _ _ h1 (by decide) hTab).mono ?_
  rintro e w7 ⟨rfl, hx7⟩
  rw [HT1.out]
  have C1 := B1.ext hx7
  have r0 := C1.c0
  have r1 := C1.c1
  have r2 := C1.c2
  have r3 := C1.c3
  go_wp2_with fail
  refine (RatFloor_b _ _ _ _ (h1.ext hx7) (by decide)).mono ?_
  rintro e w8 ⟨v8, rfl, h8, hx8⟩
  obtain ⟨p8, A8, n8, c8, rfl⟩ := h8.1.shape
  rw [HF1.out] at h8
  have hx78 := hx7.trans hx8
  go_wp2_with fail
  refine (Text_b _ _ _ _ h8 (by decide) (hTab.ext hx78)).mono ?_
  rintro e w9 ⟨rfl, hx9⟩
  rw [itm2]
  have hx79 := hx78.trans hx9
  have D1 := B1.ext hx79
  have s0 := D1.c0
  have s1 := D1.c1
  have s2 := D1.c2
  have s3 := D1.c3
  go_wp2_with fail
  refine (RatCeil_b _ _ _ _ (h1.ext hx79) (by decide)).mono ?_
  rintro e w10 ⟨v10, rfl, h10, hx10⟩
  obtain ⟨p10, A10, n10, c10, rfl⟩ := h10.1.shape
  rw [HC1.out] at h10
  have hx710 := hx79.trans hx10
  go_wp2_with fail
  refine (Text_b _ _ _ _ h10 (by decide) (hTab.ext hx710)).mono ?_
  rintro e w11 ⟨rfl, hx11⟩
  rw [itm1]
  have hx711 := hx710.trans hx11
  have D3 := B3.ext hx711
  have t0 := D3.c0
  have t1 := D3.c1
  have t2 := D3.c2
  have t3 := D3.c3
  have D5 := B5.ext hx711
  have y0 := D5.c0
  have y1 := D5.c1
  have y2 := D5.c2
  have y3 := D5.c3
  go_wp2_with fail
  refine (RatAdd_b _ _ _ _ _ _ _ (h3.ext hx711) (h5.ext hx711) (by decide)).mono ?_
  rintro e w12 ⟨v12, rfl, h12, hx12⟩
  obtain ⟨p12, A12, n12, c12, p12', A12', n12', c12', rfl⟩ := h12.1.shape
  have hx712 := hx711.trans hx12
  go_wp2_with fail
  refine (RatText_b _ _ _ _ h12 (by decide) (hTab.ext hx712)).mono ?_
  rintro e w13 ⟨rfl, hx13⟩
  rw [HX3.out, HX5.out, HT2.out]
  go_wp2_with fail
  go_ret
  exact ⟨rfl, hE6.trans (hx712.trans hx13)⟩
end Go.Proofs.YtginogcdjplhiaaGreatDoor.Rt
