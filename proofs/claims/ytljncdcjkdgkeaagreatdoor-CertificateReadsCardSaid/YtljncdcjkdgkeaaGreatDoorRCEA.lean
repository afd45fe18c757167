/- Walk: awake (the example of the chapter). Walks: the law's long; the law CertificateReads. -/
import Derived.Test.YtljncdcjkdgkeaaGreatDoorRCE1
import Derived.Test.YtljncdcjkdgkeaaGreatDoorRCDO
import Derived.Test.YtljncdcjkdgkeaaGreatDoorRCRE
set_option linter.unusedVariables false
set_option linter.unusedSimpArgs false
namespace Go.Proofs.YtljncdcjkdgkeaaGreatDoor.Lp
open Go.RowKit Go.Proofs.YtljncdcjkdgkeaaGreatDoor.Big Go.Proofs.YtljncdcjkdgkeaaGreatDoor.Rt

/-- the problem of the example -/
def pA : Prob := ⟨1, 1, fun _ => ((1 : Int) : Rat), fun _ => 1, fun _ _ => ((2 : Int) : Rat), fun _ => 1, fun _ => ((5 : Int) : Rat)⟩
def yA : Nat → Rat := fun _ => Rat.divInt 1 2
theorem row1 {w : World} {b : Nat} {p p' : Bool} {A A' : Option Addr} {m c m' c' : Nat} {q : Rat} (B : Box w b 58 #[.bool p, .slice A m c, .bool p', .slice A' m' c']) (h : RatV w (.agg #[.bool p, .slice A m c, .bool p', .slice A' m' c']) q) : RowR w b 1 (fun _ => q) := by
  refine ⟨_, B, by simp, fun j hj => ?_⟩
  obtain rfl : j = 0 := by omega
  exact ⟨p, A, m, c, p', A', m', c', rfl, rfl, rfl, rfl, h⟩
theorem pA_valid : validB pA = true := by decide +kernel
theorem awk_leaf : leafB pA 1 yA (Rat.divInt 5 2) = true := by decide +kernel
theorem awk_two : chkB (bndB pA 1 yA) (pA.rhs yA) (limZ 2 (alZ pA.obj pA.n)) (alZ pA.obj pA.n) = true := by decide +kernel
theorem awk_one : chkB (bndB pA 1 yA) (pA.rhs yA) (limZ 1 (alZ pA.obj pA.n)) (alZ pA.obj pA.n) = false := by decide +kernel
theorem awk_text : leafT false yA 1 = [98, 111, 117, 110, 100, 32, 49, 47, 50, 10] := by decide +kernel
set_option maxHeartbeats 2000000 in
set_option maxRecDepth 100000 in
theorem awake_c (w : World) (htab : TabOK w) : Calls Tryz.prog 9 #[] w (fun e w' => e = .returned (.bool true) ∧ Ext w w') := by
  go_enter Tryz.func9, Tryz.ntmps9
  go_wp2_with fail
  refine (RatOf_b 1 _ (by omega) (by omega)).mono ?_
  rintro e w1 ⟨v1, rfl, hb1, hx1⟩
  obtain ⟨p1, A1, n1, c1, p1', A1', n1', c1', rfl⟩ := hb1.1.shape
  have B1 := Box.new w1 58 #[.bool p1, .slice A1 n1 c1, .bool p1', .slice A1' n1' c1']
  have hy1 : Ext w1 (w1.alloc (.cells #[.bool p1, .slice A1 n1 c1, .bool p1', .slice A1' n1' c1'] 58)) := (Ext.refl w1).alloc _
  go_wp2_with fail
  generalize (w1.alloc (.cells #[.bool p1, .slice A1 n1 c1, .bool p1', .slice A1' n1' c1'] 58)) = V1 at *
  obtain ⟨ob, hob⟩ : ∃ x, x = w1.heap.size := ⟨_, rfl⟩
  rw [← hob] at B1 ⊢
  clear hob
  have hR1 := row1 B1 (hb1.1.ext hy1)
  have q1 := hb1.2
  have hE1 := hx1.trans hy1
  clear B1 hb1 hx1 hy1
  refine (RatOf_b 2 _ (by omega) (by omega)).mono ?_
  rintro e w2 ⟨v2, rfl, hb2, hx2⟩
  obtain ⟨p2, A2, n2, c2, p2', A2', n2', c2', rfl⟩ := hb2.1.shape
  have B2 := Box.new w2 58 #[.bool p2, .slice A2 n2 c2, .bool p2', .slice A2' n2' c2']
  have hy2 : Ext w2 (w2.alloc (.cells #[.bool p2, .slice A2 n2 c2, .bool p2', .slice A2' n2' c2'] 58)) := (Ext.refl w2).alloc _
  go_wp2_with fail
  generalize (w2.alloc (.cells #[.bool p2, .slice A2 n2 c2, .bool p2', .slice A2' n2' c2'] 58)) = V2 at *
  obtain ⟨cb, hcb⟩ : ∃ x, x = w2.heap.size := ⟨_, rfl⟩
  rw [← hcb] at B2 ⊢
  clear hcb
  have hR2 := row1 B2 (hb2.1.ext hy2)
  have q2 := hb2.2
  have hR1 := (hR1.ext hx2).ext hy2
  have hE2 := (hE1.trans hx2).trans hy2
  clear B2 hb2 hx2 hy2 hE1
  refine (RatOf_b 5 _ (by omega) (by omega)).mono ?_
  rintro e w3 ⟨v3, rfl, hb3, hx3⟩
  obtain ⟨p3, A3, n3, c3, p3', A3', n3', c3', rfl⟩ := hb3.1.shape
  obtain ⟨B3, PB, hy3⟩ := boxesT2 w3 75 41 #[.slice (some ⟨cb, 0, none⟩) 1 1, .int .u8 1, .bool p3, .slice A3 n3 c3, .bool p3', .slice A3' n3' c3'] #[.slice (some ⟨ob, 0, none⟩) 1 1, .slice (some ⟨w3.heap.size, 0, none⟩) 1 1]
  go_upto_region 2 with fail
  generalize ((w3.alloc (.cells #[.slice (some ⟨cb, 0, none⟩) 1 1, .int .u8 1, .bool p3, .slice A3 n3 c3, .bool p3', .slice A3' n3' c3'] 75)).alloc (.cells #[.slice (some ⟨ob, 0, none⟩) 1 1, .slice (some ⟨w3.heap.size, 0, none⟩) 1 1] 41)) = V3 at *
  obtain ⟨pb, hpb⟩ : ∃ x, x = w3.heap.size + 1 := ⟨_, rfl⟩
  rw [← hpb] at PB ⊢
  clear hpb
  obtain ⟨rb, hrb⟩ : ∃ x, x = w3.heap.size := ⟨_, rfl⟩
  rw [← hrb] at PB B3
  clear hrb
  have hR2 := (hR2.ext hx3).ext hy3
  have hR1 := (hR1.ext hx3).ext hy3
  have hE3 := (hE2.trans hx3).trans hy3
  have hb3 := hb3.ext hy3
  have hv3 : ProbV V3 (.agg #[.slice (some ⟨ob, 0, none⟩) 1 1, .slice (some ⟨rb, 0, none⟩) 1 1]) pA := by
    refine ⟨_, 1, _, 1, rfl, ⟨by decide, by omega, fun _ => ⟨_, rfl, hR1⟩⟩, by decide, by omega, fun _ => ⟨_, rfl, fun i hi => ?_⟩⟩
    have hi : i < 1 := hi
    obtain rfl : i = 0 := by omega
    exact ⟨_, 1, p3, A3, n3, c3, p3', A3', n3', c3', B3.cell 0, B3.cell 1, B3.cell 2, B3.cell 3, B3.cell 4, B3.cell 5, ⟨by decide, by omega, fun _ => ⟨_, rfl, hR2⟩⟩, by decide, hb3.1⟩
  have HC : Hid (∀ i, i < pA.m → ∀ j, j < pA.n → QB 2 (pA.coef i j)) := Lib.hid fun _ _ _ _ => q2
  have HR : Hid (∀ i, i < pA.m → QB 2 (pA.right i)) := Lib.hid fun _ _ => hb3.2
  have HO : Hid (∀ j, j < pA.n → QB 2 (pA.obj j)) := Lib.hid fun _ _ => q1
  clear q1 q2 hb3 B3 hR1 hR2 hx3 hy3 hE2
  go_wp2_with fail
  refine (Frac_b 1 2 _ (by omega) (by omega) (by omega) (by omega) (by omega)).mono ?_
  rintro e w4 ⟨v4, rfl, hb4, hx4⟩
  obtain ⟨p4, A4, n4, c4, p4', A4', n4', c4', rfl⟩ := hb4.1.shape
  go_upto_region 3 with fail
  have HB := Box.new w4 58 #[.bool p4, .slice A4 n4 c4, .bool p4', .slice A4' n4' c4']
  have hy4 : Ext w4 (w4.alloc (.cells #[.bool p4, .slice A4 n4 c4, .bool p4', .slice A4' n4' c4'] 58)) := (Ext.refl w4).alloc _
  generalize (w4.alloc (.cells #[.bool p4, .slice A4 n4 c4, .bool p4', .slice A4' n4' c4'] 58)) = V4 at *
  obtain ⟨hb, hhb⟩ : ∃ x, x = w4.heap.size := ⟨_, rfl⟩
  rw [← hhb] at HB ⊢
  clear hhb
  have hx4 := hx4.trans hy4
  have hb4 := hb4.ext hy4
  have hv4 := hv3.ext hx4
  have PB4 := PB.ext hx4
  have hE4 := hE3.trans hx4
  clear hv3 PB hE3 hx4 hy4
  go_wp2_with fail
  refine (Frac_b 5 2 _ (by omega) (by omega) (by omega) (by omega) (by omega)).mono ?_
  rintro e w5 ⟨v5, rfl, hb5, hx5⟩
  obtain ⟨p5, A5, n5, c5, p5', A5', n5', c5', rfl⟩ := hb5.1.shape
  go_upto_region 4 with fail
  have LB := Box.new w5 58 #[.bool p5, .slice A5 n5 c5, .bool p5', .slice A5' n5' c5']
  have hy5 : Ext w5 (w5.alloc (.cells #[.bool p5, .slice A5 n5 c5, .bool p5', .slice A5' n5' c5'] 58)) := (Ext.refl w5).alloc _
  generalize (w5.alloc (.cells #[.bool p5, .slice A5 n5 c5, .bool p5', .slice A5' n5' c5'] 58)) = V5 at *
  obtain ⟨lb, hlb⟩ : ∃ x, x = w5.heap.size := ⟨_, rfl⟩
  rw [← hlb] at LB ⊢
  clear hlb
  have hx5 := hx5.trans hy5
  have hb5 := hb5.ext hy5
  have hv5 := hv4.ext hx5
  have PB5 := PB4.ext hx5
  have HB5 := HB.ext hx5
  have hb45 := hb4.ext hx5
  have hE5 := hE4.trans hx5
  clear hv4 PB4 HB hb4 hE4 hx5 hy5
  have h0 := HB5.c0
  have h1 := HB5.c1
  have h2 := HB5.c2
  have h3 := HB5.c3
  obtain ⟨YB, TB, hy6⟩ := boxesT2 V5 58 79 #[.bool p4, .slice A4 n4 c4, .bool p4', .slice A4' n4' c4'] (NodeC (-1) 0 none none false (some ⟨V5.heap.size, 0, none⟩) 1 1)
  unfold NodeC at TB YB hy6
  go_upto_region 5 with fail
  generalize ((V5.alloc (.cells #[.bool p4, .slice A4 n4 c4, .bool p4', .slice A4' n4' c4'] 58)).alloc (.cells #[.int .i64 (-1), .int .i64 0, .pointer none, .pointer none, .bool false, .slice (some ⟨V5.heap.size, 0, none⟩) 1 1] 79)) = V6 at *
  obtain ⟨tb, htb⟩ : ∃ x, x = V5.heap.size + 1 := ⟨_, rfl⟩
  rw [← htb] at TB ⊢
  clear htb
  obtain ⟨yb, hyb⟩ : ∃ x, x = V5.heap.size := ⟨_, rfl⟩
  rw [← hyb] at TB YB
  clear hyb
  have hv6 := hv5.ext hy6
  have PB6 := PB5.ext hy6
  have LB6 := LB.ext hy6
  have hb6 := hb5.ext hy6
  have hY6 : RatsV V6 (some ⟨yb, 0, none⟩) 1 1 yA := ⟨by omega, by omega, fun _ => ⟨_, rfl, row1 YB (hb45.ext hy6).1⟩⟩
  have HY : Hid (∀ j, j < 1 → QB 2 (yA j)) := Lib.hid fun _ _ => hb45.2
  have hE6 := hE5.trans hy6
  clear hv5 PB5 LB hb5 hb45 hE5 hy6 h0 h1 h2 h3 HB5 YB
  have hwf : ∀ W, Ext V6 W → Calls Tryz.prog 32 #[.pointer (some ⟨tb, 0, none⟩)] W (fun e w' => e = .returned (.bool true) ∧ Ext W w') := fun W hW => by
    have h := wellFormed_leaf tb 0 false (some ⟨yb, 0, none⟩) 1 1 W (TB.ext hW)
    rw [show decide ((0 : Int) = 0) = true by decide] at h
    exact h
  have hen : Calls Tryz.prog 12 #[.pointer (some ⟨tb, 0, none⟩)] V6 (EnPost true [98, 111, 117, 110, 100, 32, 49, 47, 50, 10] V6) :=
    Encode_any _ true _ _ (by decide) hwf (fun _ w0 W b fb e0 e1 hB _ _ _ _ => by
      have h := write_leaf w0 W b tb (.pointer (some ⟨fb, 0, none⟩)) [] 0 false (some ⟨yb, 0, none⟩) 1 1 2 yA e1 hB (by simp) (TB.ext e0) (hY6.ext e0) (by omega) (by omega) (by omega) HY.out (htab.ext (hE6.trans e0))
      rw [List.nil_append, awk_text] at h
      exact h)
  go_wp2_with fail
  refine hen.mono ?_
  rintro e w7 ⟨hx7, ⟨-, rfl⟩ | ⟨h, -⟩⟩
  · have HL : ∀ W, Ext V6 W → Calls Tryz.prog 30 #[.agg #[.slice (some ⟨ob, 0, none⟩) 1 1, .slice (some ⟨rb, 0, none⟩) 1 1], .agg #[.bool p5, .slice A5 n5 c5, .bool p5', .slice A5' n5' c5'], .slice (some ⟨yb, 0, none⟩) 1 1] W (ValPost W (.bool true)) := fun W hW => by
      have h := Leaf_b _ pA _ (Rat.divInt 5 2) (some ⟨yb, 0, none⟩) 1 1 yA 2 2 2 2 2 8 W (hv6.ext hW) (hb6.ext hW) (hY6.ext hW) HC.out HR.out HO.out HY.out (by decide) (by decide) (by decide) (by decide) (by decide)
      rw [awk_leaf] at h
      exact h
    have HK : ∀ (z : Int) (R : Bool), z = 1 ∨ z = 2 → chkB (bndB pA 1 yA) (pA.rhs yA) (limZ z (alZ pA.obj pA.n)) (alZ pA.obj pA.n) = R → ∀ W, Ext V6 W → Calls Tryz.prog 16 #[.agg #[.slice (some ⟨ob, 0, none⟩) 1 1, .slice (some ⟨rb, 0, none⟩) 1 1], .int .i64 z, .pointer (some ⟨tb, 0, none⟩)] W (ValPost W (.int .i64 (chkE true R))) := fun z R hz hR W hW => by
      have h := Check_any _ (.pointer (some ⟨tb, 0, none⟩)) pA z true true R 2 W (hv6.ext hW) (by omega) (by omega) (by decide) HO.out (fun W' h' => hwf W' (hW.trans h'))
        (fun _ _ W' h' => by
          have h := fits_leaf tb 0 false (some ⟨yb, 0, none⟩) 1 1 (some ⟨ob, 0, none⟩) (some ⟨rb, 0, none⟩) 1 1 1 1 W' ((TB.ext hW).ext h') (by omega)
          rw [show decide ((1 : Nat) = 1) = true by decide] at h
          exact h)
        (fun _ _ _ W' fb lb sb u1 u3 U2 U4 l2 l3 l4 l5 h' _ _ _ _ BL hz' BS => by
          have h := provesC_leaf _ (.pointer (some ⟨fb, 0, none⟩)) tb lb sb 0 pA (some ⟨yb, 0, none⟩) 1 1 yA 2 2 2 2 5 8 _ (alZ pA.obj pA.n) u1 u3 U2 U4 l2 l3 l4 l5 W' ((TB.ext hW).ext h') ((hv6.ext hW).ext h') pA_valid ((hY6.ext hW).ext h') BL hz' BS HC.out HR.out HO.out HY.out (by decide) (by decide) (by decide) (by decide) (by decide)
          rw [hR] at h
          exact h)
      rw [pA_valid] at h
      exact h
    have HK2 : ∀ W, Ext V6 W → Calls Tryz.prog 16 #[.agg #[.slice (some ⟨ob, 0, none⟩) 1 1, .slice (some ⟨rb, 0, none⟩) 1 1], .int .i64 2, .pointer (some ⟨tb, 0, none⟩)] W (ValPost W (.int .i64 0)) := HK 2 true (by omega) awk_two
    have HK1 : ∀ W, Ext V6 W → Calls Tryz.prog 16 #[.agg #[.slice (some ⟨ob, 0, none⟩) 1 1, .slice (some ⟨rb, 0, none⟩) 1 1], .int .i64 1, .pointer (some ⟨tb, 0, none⟩)] W (ValPost W (.int .i64 19)) := HK 1 false (by omega) awk_one
    have k0 : ∀ w', Later V6 w' → w'.cell? ⟨pb, 0, none⟩ = some _ := fun w' h => (PB6.ext h).c0
    have k1 : ∀ w', Later V6 w' → w'.cell? ⟨pb, 1, none⟩ = some _ := fun w' h => (PB6.ext h).c1
    have k2 : ∀ w', Later V6 w' → w'.cell? ⟨lb, 0, none⟩ = some _ := fun w' h => (LB6.ext h).c0
    have k3 : ∀ w', Later V6 w' → w'.cell? ⟨lb, 1, none⟩ = some _ := fun w' h => (LB6.ext h).c1
    have k4 : ∀ w', Later V6 w' → w'.cell? ⟨lb, 2, none⟩ = some _ := fun w' h => (LB6.ext h).c2
    have k5 : ∀ w', Later V6 w' → w'.cell? ⟨lb, 3, none⟩ = some _ := fun w' h => (LB6.ext h).c3
    have k6 : ∀ w', Later V6 w' → w'.cell? ⟨tb, 5, none⟩ = some (.slice (some ⟨yb, 0, none⟩) 1 1) := fun w' h => (TB.ext h).cell 5
    have ks : Later V6 w7 := hx7
    clear HK hen hwf hv6 PB6 LB6 TB hb6 hY6
    go_upto_region 6 with fail
    go_region_held3 (fun w' => Later V6 w') ((repeat (first | assumption | apply Later.drew | apply Later.drewN | apply Later.alloc | (refine Later.step ?_ (by assumption))))) (first
      | (go_at_call 30; (with_reducible refine (HL _ (by repeat (first | (with_reducible exact Ext.refl _) | (with_reducible apply Ext.drew) | (with_reducible apply Ext.drewN) | (with_reducible refine Ext.trans ?_ (by assumption))))).mono ?_); rintro e wk ⟨rfl, hxk⟩)
      | (go_at_call 16; (with_reducible refine (HK2 _ (by repeat (first | (with_reducible exact Ext.refl _) | (with_reducible apply Ext.drew) | (with_reducible apply Ext.drewN) | (with_reducible refine Ext.trans ?_ (by assumption))))).mono ?_); rintro e wk ⟨rfl, hxk⟩)
      | (go_at_call 16; (with_reducible refine (HK1 _ (by repeat (first | (with_reducible exact Ext.refl _) | (with_reducible apply Ext.drew) | (with_reducible apply Ext.drewN) | (with_reducible refine Ext.trans ?_ (by assumption))))).mono ?_); rintro e wk ⟨rfl, hxk⟩)
      )
    all_goals (
      go_wp2_with fail
      go_ret
      refine ⟨rfl, hE6.trans ?_⟩
      repeat (first | assumption | (with_reducible refine Ext.trans ?_ (by assumption)) | (with_reducible apply Ext.drew) | (with_reducible apply Ext.drewN)))
  · cases h
end Go.Proofs.YtljncdcjkdgkeaaGreatDoor.Lp
namespace Go.Proofs.YtljncdcjkdgkeaaGreatDoor.Dc
open Go.RowKit Go.Proofs.YtljncdcjkdgkeaaGreatDoor.Big Go.Proofs.YtljncdcjkdgkeaaGreatDoor.Lp Go.Proofs.YtljncdcjkdgkeaaGreatDoor.Rt

set_option maxHeartbeats 1000000 in
set_option maxRecDepth 100000 in
theorem long_b (t : BL) (w : World) (ht : t.length ≤ 1048576) : Calls Tryz.prog 27 #[.string (str t)] w (fun e w' => (∃ b : Bool, e = .returned (.int .i64 (if b = true then 1 else 0)) ∧ (b = false → Short t)) ∧ w' = w) := by
  have hss : (str t).size = t.length := rfl
  go_enter Tryz.func27, Tryz.ntmps27
  go_wp2_with fail
  go_loopw [3, 4] (fun nv iv wr => ∃ k n : Nat, k ≤ t.length ∧ iv = .int .i64 k ∧ nv = .int .i64 n ∧ n ≤ 15 ∧ Hid (Short (t.take k)) ∧ Hid (Tail (t.take k) n) ∧ w = wr) (fun _ i _ => t.length - (intOf i).toNat)
  case atStart => exact ⟨0, 0, by omega, rfl, rfl, by omega, Lib.hid Short.nil, Lib.hid Tail.nil, rfl⟩
  case round =>
    obtain ⟨k, n, hk, rfl, rfl, hn, HS, HT, rfl⟩ := hrel
    by_cases hlt : k < t.length
    · have hlt' : k < (str t).size := by omega
      obtain ⟨c, hc⟩ : ∃ c, t[k]? = some c := ⟨_, List.getElem?_eq_getElem hlt⟩
      have hg : (str t)[k]'hlt' = c := str_get hc hlt'
      have htk : t.take (k + 1) = t.take k ++ [c] := by rw [List.take_add_one, hc]; rfl
      obtain ⟨C, hC⟩ : ∃ C : Nat, C = c.toNat := ⟨_, rfl⟩
      have hgC : ((((str t)[k]'hlt').toNat : Nat) : Int) = (C : Int) := by rw [hg, hC]
      by_cases hd : 48 ≤ C ∧ C ≤ 57
      · have f1 : decide (((((str t)[k]'hlt').toNat : Nat) : Int) < 48) = false := by rw [hgC]; simp; omega
        have f2 : decide ((57 : Int) < ((((str t)[k]'hlt').toNat : Nat) : Int)) = false := by rw [hgC]; simp; omega
        have r1 : IntKind.i64.wrap ((n : Int) + 1) = (n : Int) + 1 := IntWalk.i64_in _ (by omega)
        by_cases h15 : n = 15
        · have u1 : decide ((15 : Int) < (n : Int) + 1) = true := decide_eq_true (by omega)
          clear hgC hC hg hc htk
          go_wp2_with fail
          go_ret
          exact ⟨⟨true, rfl, fun h => by cases h⟩, rfl⟩
        · have u1 : decide ((15 : Int) < (n : Int) + 1) = false := decide_eq_false (by omega)
          have HS2 : Hid (Short (t.take (k + 1))) := Lib.hid (by rw [htk]; exact short_dig HS.out HT.out (by omega) (by omega))
          have HT2 : Hid (Tail (t.take (k + 1)) (n + 1)) := Lib.hid (by rw [htk]; exact HT.out.dig (by omega))
          clear hgC hC hg hc htk HS HT
          go_wp2_with fail
          exact ⟨⟨k + 1, n + 1, by omega, by go_num, by go_num, by omega, HS2, HT2, trivial⟩, by simp [intOf]; omega⟩
      · have HS2 : Hid (Short (t.take (k + 1))) := Lib.hid (by rw [htk]; exact short_no HS.out (by omega))
        have HT2 : Hid (Tail (t.take (k + 1)) 0) := Lib.hid (by rw [htk]; exact Tail.no (n := 0) (by omega))
        by_cases h48 : C < 48
        · have f1 : decide (((((str t)[k]'hlt').toNat : Nat) : Int) < 48) = true := by rw [hgC]; simp; omega
          clear hgC hC hg hc htk HS HT
          go_wp2_with fail
          exact ⟨⟨k + 1, 0, by omega, by go_num, rfl, by omega, HS2, HT2, trivial⟩, by simp [intOf]; omega⟩
        · have f1 : decide (((((str t)[k]'hlt').toNat : Nat) : Int) < 48) = false := by rw [hgC]; simp; omega
          have f2 : decide ((57 : Int) < ((((str t)[k]'hlt').toNat : Nat) : Int)) = true := by rw [hgC]; simp; omega
          clear hgC hC hg hc htk HS HT
          go_wp2_with fail
          exact ⟨⟨k + 1, 0, by omega, by go_num, rfl, by omega, HS2, HT2, trivial⟩, by simp [intOf]; omega⟩
    · obtain rfl : k = t.length := by omega
      have hs := HS.out
      rw [List.take_length] at hs
      have HF := Lib.hid hs
      clear HS HT hs
      go_wp2_with fail
      go_ret
      exact ⟨⟨false, rfl, fun _ => HF.out⟩, rfl⟩
theorem dN_nz : ∀ (f : Nat) (l : BL) (c : Int), dN f l = .error c → c ≠ 0 := by
  have hd : ∀ (l : BL) (c : Int), hdL l = .error c → c ≠ 0 := by
    intro l c h
    unfold hdL at h
    split at h
    · injection h with h; omega
    · split at h
      · injection h with h; omega
      · cases h
  intro f
  induction f with
  | zero =>
    intro l c h
    cases hh : hdL l with
    | error e => rw [dN_err hh] at h; injection h with h; subst h; exact hd l _ hh
    | ok p =>
      obtain ⟨⟨w0, ws⟩, b⟩ := p
      by_cases hw : w0 = splB
      · subst hw
        rw [dN_zero hh] at h; injection h with h; omega
      · rw [dN_leaf hh hw] at h
        split at h
        · cases h
        · injection h with h; omega
  | succ f ih =>
    intro l c h
    cases hh : hdL l with
    | error e => rw [dN_err hh] at h; injection h with h; subst h; exact hd l _ hh
    | ok p =>
      obtain ⟨⟨w0, ws⟩, b⟩ := p
      by_cases hw : w0 = splB
      · subst hw
        cases hs : spl ws with
        | none => rw [dN_bad hh hs] at h; injection h with h; omega
        | some q =>
          obtain ⟨v, fl⟩ := q
          rw [dN_in hh hs] at h
          cases ha : dN f b with
          | error e => rw [ha] at h; injection h with h; subst h; exact ih _ _ ha
          | ok p =>
            obtain ⟨x, r1⟩ := p
            rw [ha] at h
            dsimp only at h
            cases hb' : dN f r1 with
            | error e => rw [hb'] at h; injection h with h; subst h; exact ih _ _ hb'
            | ok p =>
              obtain ⟨y, r2⟩ := p
              rw [hb'] at h
              cases h
      · rw [dN_leaf hh hw] at h
        split at h
        · cases h
        · injection h with h; omega
theorem decP_nz {l : BL} {c : Int} (h : decP l = .error c) : c ≠ 0 := by
  unfold decP at h
  split at h
  · injection h with h; omega
  · split at h
    · injection h with h; omega
    · cases hd : dN 200 l with
      | error e => rw [hd] at h; injection h with h; subst h; exact dN_nz _ _ _ hd
      | ok p =>
        obtain ⟨t, r⟩ := p
        rw [hd] at h
        dsimp only at h
        split at h
        · cases h
        · injection h with h; omega
set_option maxHeartbeats 1000000 in
set_option maxRecDepth 100000 in
theorem reads_any (S : BL) (w : World) (he : Env w) :
    Calls Tryz.prog 8 #[.string (str S)] w (ValPost w (.bool true)) := by
  have hss : (str S).size = S.length := rfl
  go_enter Tryz.func8, Tryz.ntmps8
  go_wp2_with fail
  refine (awake_c _ he.tab).mono ?_
  rintro e w1 ⟨rfl, hx1⟩
  by_cases h300 : 300 < S.length
  · have u1 : decide ((300 : Int) < (S.length : Int)) = true := decide_eq_true (by omega)
    go_wp2_with fail
    go_ret
    exact ⟨rfl, hx1⟩
  have u1 : decide ((300 : Int) < (S.length : Int)) = false := decide_eq_false (by omega)
  go_wp2_with fail
  refine (long_b S w1 (by omega)).mono ?_
  rintro e w2 ⟨⟨b, rfl, hb⟩, rfl⟩
  cases b with
  | true =>
    clear hb
    go_wp2_with fail
    go_ret
    exact ⟨rfl, hx1⟩
  | false =>
  have HS := Lib.hid (hb rfl)
  clear hb
  have HPB : Hid (∀ W, Calls Tryz.prog 28 #[.string (str S)] W (fun e w' => (∃ v, e = .returned (.tuple #[v, .int .i64 (errR S)])) ∧ Ext W w')) := Lib.hid (fun W => Parse_b S W HS.out (by omega))
  have HDB := Lib.hid (Decode_b S w2 (he.ext hx1))
  have HER := Lib.hid (decP_ref S)
  obtain ⟨D, hD⟩ : ∃ D, D = decP S := ⟨_, rfl⟩
  rw [← hD] at HDB HER
  obtain ⟨E, hE⟩ : ∃ E, E = errR S := ⟨_, rfl⟩
  rw [← hE] at HPB HER
  have HD := Lib.hid hD
  clear hD hE
  go_wp2_with fail
  refine HDB.out.mono ?_
  clear HDB
  rintro e w3 ⟨hx3, hpost⟩
  cases D with
  | error c =>
    have hc0 : c ≠ 0 := decP_nz HD.out.symm
    have e6 : (c == 0) = false := by rw [beq_eq_false_iff_ne]; exact hc0
    have e7 : (c != 0) = true := by rw [bne, e6]; rfl
    have hpost : e = .returned (.tuple #[.pointer none, .int .i64 c]) := hpost
    subst hpost
    have hEc : E = c := HER.out
    subst hEc
    clear hc0
    go_wp2_with fail
    refine (HPB.out _).mono ?_
    rintro e w4 ⟨⟨v, rfl⟩, hx4⟩
    go_wp2_with fail
    go_ret
    exact ⟨rfl, (hx1.trans hx3).trans hx4⟩
  | ok t =>
    obtain ⟨A, rfl, hT⟩ := hpost
    obtain ⟨k1, k2, k3, k4⟩ := decP_back HD.out.symm (by omega) HS.out
    have hE0 : E = 0 := HER.out
    subst hE0
    have HEN : Hid (∀ W, Ext w3 W → Calls Tryz.prog 12 #[.pointer A] W (fun e w' => e = .returned (.tuple #[.string (str S), .int .i64 0]) ∧ Ext W w')) := Lib.hid (fun W hW => by
      refine (Encode_t t A _ _ W (hT.ext hW) (by omega) k3 (by rw [k1]; omega) (he.ext ((hx1.trans hx3).trans hW)).tab).mono ?_
      rintro e w' ⟨hx, ⟨-, rfl⟩ | ⟨h2, -⟩⟩
      · rw [k1]; exact ⟨rfl, hx⟩
      · rw [k2] at h2; cases h2)
    have hsl : (str S).toList = S := by rw [Lib.toList_data, str_list]
    clear k1 k2 k3 k4 hT
    go_wp2_with fail
    refine (HPB.out _).mono ?_
    rintro e w4 ⟨⟨v, rfl⟩, hx4⟩
    go_wp2_with fail
    refine (HEN.out _ hx4).mono ?_
    rintro e w5 ⟨rfl, hx5⟩
    go_wp2_with fail
    go_ret
    exact ⟨rfl, ((hx1.trans hx3).trans hx4).trans hx5⟩
theorem reads_str (s : ByteArray) (w : World) (he : Env w) : Calls Tryz.prog 8 #[.string s] w (ValPost w (.bool true)) := by
  have h := reads_any s.data.toList w he
  rwa [str_of] at h
end Go.Proofs.YtljncdcjkdgkeaaGreatDoor.Dc
