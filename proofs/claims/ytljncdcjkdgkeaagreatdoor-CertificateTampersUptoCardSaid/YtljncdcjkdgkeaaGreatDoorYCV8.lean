/- Walk: pointless of the certificate. Walk: bounded of the certificate. Walks: Leaf and Empty of the certificate. bounded in one form. -/
import Derived.Test.YtljncdcjkdgkeaaGreatDoorYCV7
set_option linter.unusedVariables false
set_option linter.unusedSimpArgs false
namespace Go.Proofs.YtljncdcjkdgkeaaGreatDoor.Lp
open Go.RowKit Go.Proofs.YtljncdcjkdgkeaaGreatDoor.Big Go.Proofs.YtljncdcjkdgkeaaGreatDoor.Rt
def pntB (p : Prob) (ny : Nat) (y : Nat → Rat) : Bool := q03 p ny y && (decide (p.rhs y < 0) && nnB (p.left y) p.n)
theorem nnB_congr {f g : Nat → Rat} {n : Nat} (h : ∀ j, j < n → f j = g j) : nnB f n = nnB g n := by
 induction n with
 | zero => rfl
 | succ k ih => show (nnB f k && _) = (nnB g k && _); rw [ih (fun j hj => h j (by omega)), h k (by omega)]
set_option maxHeartbeats 8000000 in
set_option maxRecDepth 100000 in
theorem qdi (v : Value) (p : Prob) (Ay : Option Addr) (ny cy : Nat) (y : Nat → Rat) (Kc Kr Ky T : Nat) (w : World) (hv : qga w v p) (hval : qba p = true) (hy : q94 w Ay ny cy y)
 (hc : ∀ i, i < p.m → ∀ j, j < p.n → QB Kc (p.coef i j)) (hr : ∀ i, i < p.m → QB Kr (p.right i)) (hq : ∀ j, j < ny → QB Ky (y j)) (hT : 1 + p.m * (Kc + Kr + Ky + 1) ≤ T) (hT2 : T ≤ 137438953472) (hT3 : Kc + Kr + Ky ≤ 137438953472) :
 Calls Tryz.prog 50 #[v, .slice Ay ny cy] w (qjz w (.bool (pntB p ny y))) := by
 have hv0 := hv
 obtain ⟨Ao, co, Ar, cr, rfl, -⟩ := hv0
 have hp := validB_iff.1 hval
 have HC := Lib.hid hc
 have HR := Lib.hid hr
 have HY := Lib.hid hq
 have HT := Lib.hid hT
 have HV := Lib.hid hval
 clear hc hr hq hT hval
 obtain ⟨F, hF⟩ : ∃ F, F = pntB p ny y := ⟨_, rfl⟩
 have HF : Hid (F = (q03 p ny y && (decide (p.rhs y < 0) && nnB (p.left y) p.n))) := Lib.hid (by rw [hF]; rfl)
 rw [← hF]
 obtain ⟨n, hn⟩ : ∃ n, n = p.n := ⟨_, rfl⟩
 obtain ⟨m, hm⟩ : ∃ n, n = p.m := ⟨_, rfl⟩
 have hnb : n ≤ 1000 := by rw [hn]; exact hp.2.1
 rw [← hn] at HF
 have HN := Lib.hid hn
 rw [← hn, ← hm] at hv ⊢
 clear hp hF hn hm
 have PB := Box.new w 41 #[.slice Ao n co, .slice Ar m cr]
 have hE0 : Ext w (w.alloc (.cells #[.slice Ao n co, .slice Ar m cr] 41)) := (Ext.refl w).alloc _
 go_enter Tryz.func50, Tryz.ntmps50
 go_upto_region 1 with fail
 generalize (w.alloc (.cells #[.slice Ao n co, .slice Ar m cr] 41)) = V at *
 have c0 := PB.c0
 have c1 := PB.c1
 have hvV := hv.ext hE0
 go_wp2_with fail
 refine (q7i _ p Ay ny cy y Kc Kr Ky T _ hvV HV.out (hy.ext hE0) HC.out HR.out HY.out HT.out hT2 hT3).mono ?_
 rintro e w1 ⟨hcase, hx1⟩
 have hE1 := hE0.trans hx1
 clear hx1 hvV
 rcases hcase with ⟨hcb, rfl⟩ | ⟨hcb, bl, q, A, n1, c, q', A', n1', c', f, z, rfl, hL, hZ, hB, hlf, hrh⟩
 ·have HE : Hid (F = false) := Lib.hid (by rw [HF.out, hcb]; rfl)
  clear hcb c0 c1 PB
  go_upto_region 2 with fail
  have hx6 : Ext w1 (w1.alloc (.cells #[.bool false, .slice none 0 0, .bool false, .slice none 0 0] 58)) := (Ext.refl w1).alloc _
  generalize (w1.alloc (.cells #[.bool false, .slice none 0 0, .bool false, .slice none 0 0] 58)) = U at *
  go_wp2_with fail
  go_ret
  exact ⟨by rw [HE.out]; rfl, hE1.trans hx6⟩
 ·rw [← HN.out] at hL hB hlf ⊢
  have HFE : Hid (F = (decide (z < 0) && nnB f n)) := Lib.hid (by rw [HF.out, hcb, ← hrh, nnB_congr hlf]; rfl)
  have HB := Lib.hid hB
  clear hcb hlf hrh hB c0 c1 PB
  go_upto_region 2 with fail
  have B6 := Box.new w1 58 #[.bool q, .slice A n1 c, .bool q', .slice A' n1' c']
  have hx6 : Ext w1 (w1.alloc (.cells #[.bool q, .slice A n1 c, .bool q', .slice A' n1' c'] 58)) := (Ext.refl w1).alloc _
  generalize (w1.alloc (.cells #[.bool q, .slice A n1 c, .bool q', .slice A' n1' c'] 58)) = U at *
  obtain ⟨b6, hb6⟩ : ∃ x, x = w1.heap.size := ⟨_, rfl⟩
  rw [← hb6] at B6 ⊢
  clear hb6
  have hL := hL.ext hx6
  have hZ := hZ.ext hx6
  have hE2 := hE1.trans hx6
  clear hx6 hE0 hE1
  have x0 := B6.c0
  have x1 := B6.c1
  have x2 := B6.c2
  have x3 := B6.c3
  go_wp2_with fail
  refine (qpl _ z T _ hZ).mono ?_
  rintro e w3 ⟨rfl, hx3⟩
  have ev : decide (0 ≤ z.num.sign) = !decide (z < 0) := by
   rcases q83 z.num with ⟨a, b⟩ | ⟨a, b⟩ | ⟨a, b⟩ <;> rw [b]
   ·have := num_neg.2 a; simp; grind
   ·have := Rat.num_eq_zero.1 a; simp; grind
   ·have := num_pos.2 a; simp; grind
  obtain ⟨S, hS⟩ : ∃ S, S = decide (z < 0) := ⟨_, rfl⟩
  obtain ⟨g, hg⟩ : ∃ g, g = z.num.sign := ⟨_, rfl⟩
  rw [← hS] at ev HFE
  rw [← hg] at ev ⊢
  have hL := hL.ext hx3
  have hE3 := hE2.trans hx3
  clear hS hg x0 x1 x2 x3 B6 hZ hx3 hE2
  cases S with
  | false =>
    go_wp2_with fail
    go_ret
    exact ⟨by rw [HFE.out]; rfl, hE3⟩
  | true =>
    go_wp2_with fail
    go_loopw [26] (fun i wr => ∃ j : Nat, j ≤ n ∧ i = .int .i64 j ∧ Hid (nnB f j = true) ∧ Ext w3 wr) (fun i _ => n - (intOf i).toNat)
    case atStart => exact ⟨0, by omega, rfl, Lib.hid rfl, Ext.refl w3⟩
    case round =>
     obtain ⟨j, hj, rfl, HJ, hx⟩ := hrel
     by_cases hlt : j < n
     ·obtain ⟨p3, A3, m3, c3, p3', A3', m3', c3', a0, a1, a2, a3, hr3⟩ := (hL.ext hx).at hlt
      obtain ⟨X, hX⟩ : ∃ X, X = f j := ⟨_, rfl⟩
      have HXB := Lib.hid (HB.out j hlt)
      rw [← hX] at hr3 HXB
      have HNO : Hid (decide (X < 0) = true → F = false) := Lib.hid (fun h => by
       rw [HFE.out]
       cases e : nnB f n with
       | false => rfl
       | true =>
         have := nnB_iff.1 e j hlt
         rw [← hX] at this
         exact absurd (of_decide_eq_true h) (Rat.not_lt.2 this))
      have HYE : Hid (decide (X < 0) = false → nnB f (j + 1) = true) := Lib.hid (fun h => by
       show (nnB f j && decide (0 ≤ f j)) = true
       rw [HJ.out, ← hX]
       simpa using Rat.not_lt.1 (of_decide_eq_false h))
      clear hX
      go_upto_region 7 with fail
      have Bx := Box.new wr 58 #[.bool p3, .slice A3 m3 c3, .bool p3', .slice A3' m3' c3']
      have hEx : Ext wr (wr.alloc (.cells #[.bool p3, .slice A3 m3 c3, .bool p3', .slice A3' m3' c3'] 58)) := (Ext.refl wr).alloc _
      generalize (wr.alloc (.cells #[.bool p3, .slice A3 m3 c3, .bool p3', .slice A3' m3' c3'] 58)) = X1 at *
      have hx := hx.trans hEx
      have hr3 := hr3.ext hEx
      have x0 := Bx.c0
      have x1 := Bx.c1
      have x2 := Bx.c2
      have x3 := Bx.c3
      clear a0 a1 a2 a3 hEx
      go_wp2_with fail
      refine (qpl _ X T _ ⟨hr3, HXB.out⟩).mono ?_
      rintro e w4 ⟨rfl, hx4⟩
      have ev : decide (X.num.sign < 0) = decide (X < 0) := by
       rcases q83 X.num with ⟨a, b⟩ | ⟨a, b⟩ | ⟨a, b⟩ <;> rw [b]
       ·have := num_neg.2 a; simp; grind
       ·have := Rat.num_eq_zero.1 a; simp; grind
       ·have := num_pos.2 a; simp; grind
      obtain ⟨S, hS⟩ : ∃ S, S = decide (X < 0) := ⟨_, rfl⟩
      obtain ⟨g, hg⟩ : ∃ g, g = X.num.sign := ⟨_, rfl⟩
      rw [← hS] at ev HNO HYE
      rw [← hg] at ev ⊢
      have hxx := hx.trans hx4
      clear hS hg x0 x1 x2 x3 Bx hr3 hx hx4
      cases S with
      | false =>
        have HN1 : Hid (nnB f (j + 1) = true) := Lib.hid (HYE.out rfl)
        clear HYE HNO
        go_wp2_with fail
        go_roundw
        case rel => first | exact ⟨j + 1, by omega, by go_num, HN1, hxx⟩ | ((repeat (apply Exists.intro (α := Value))); exact ⟨⟨j + 1, by omega, by go_num, HN1, hxx⟩, rfl⟩)
        case measure => simp [intOf]; omega
      | true =>
        have HE : Hid (F = false) := Lib.hid (HNO.out rfl)
        clear HYE HNO
        go_wp2_with fail
        go_ret
        exact ⟨by rw [HE.out]; rfl, hE3.trans hxx⟩
     ·obtain rfl : j = n := by omega
      have HE : Hid (F = true) := Lib.hid (by rw [HFE.out, HJ.out]; rfl)
      go_wp2_with fail
      go_ret
      exact ⟨by rw [HE.out]; rfl, hE3.trans hx⟩
def geB (f g : Nat → Rat) : Nat → Bool
 | 0 => true
 | j + 1 => geB f g j && decide (g j ≤ f j)
theorem geB_iff {f g : Nat → Rat} {n : Nat} : geB f g n = true ↔ ∀ j, j < n → g j ≤ f j := by
 induction n with
 | zero => exact ⟨fun _ i hi => absurd hi (by omega), fun _ => rfl⟩
 | succ n ih =>
   show (geB f g n && decide (g n ≤ f n)) = true ↔ _
   rw [Bool.and_eq_true, ih, decide_eq_true_eq]
   constructor
   ·rintro ⟨a, b⟩ i hi
    by_cases e : i = n
    ·subst e; exact b
    ·exact a i (by omega)
   ·intro h; exact ⟨fun i hi => h i (by omega), h n (by omega)⟩
theorem geB_congr {f g h : Nat → Rat} {n : Nat} (e : ∀ j, j < n → f j = g j) : geB f h n = geB g h n := by
 induction n with
 | zero => rfl
 | succ k ih => show (geB f h k && _) = (geB g h k && _); rw [ih (fun j hj => e j (by omega)), e k (by omega)]
def bndB (p : Prob) (ny : Nat) (y : Nat → Rat) : Bool := q03 p ny y && geB (p.left y) p.obj p.n
def BndC (w : World) (p : Prob) (ny : Nat) (y : Nat → Rat) (T : Nat) (e : Ending) (w' : World) : Prop :=
 ((bndB p ny y = false ∧ e = .returned (.tuple #[.agg #[.bool false, .slice none 0 0, .bool false, .slice none 0 0], .bool false])) ∨
   (bndB p ny y = true ∧ ∃ q A n c q' A' n' c', e = .returned (.tuple #[.agg #[.bool q, .slice A n c, .bool q', .slice A' n' c'], .bool true]) ∧ RatB w' (.agg #[.bool q, .slice A n c, .bool q', .slice A' n' c']) (p.rhs y) T)) ∧ Ext w w'
set_option maxHeartbeats 8000000 in
set_option maxRecDepth 100000 in
theorem qp8 (v : Value) (p : Prob) (Ay : Option Addr) (ny cy : Nat) (y : Nat → Rat) (Kc Kr Ko Ky T : Nat) (w : World) (hv : qga w v p) (hval : qba p = true) (hy : q94 w Ay ny cy y)
 (hc : ∀ i, i < p.m → ∀ j, j < p.n → QB Kc (p.coef i j)) (hr : ∀ i, i < p.m → QB Kr (p.right i)) (ho : ∀ j, j < p.n → QB Ko (p.obj j)) (hq : ∀ j, j < ny → QB Ky (y j)) (hT : 1 + p.m * (Kc + Kr + Ky + 1) ≤ T) (hT2 : T ≤ 137438953472) (hT3 : Kc + Kr + Ky ≤ 137438953472) (hT4 : Ko ≤ 137438953472) :
 Calls Tryz.prog 51 #[v, .slice Ay ny cy] w (BndC w p ny y T) := by
 have hv0 := hv
 obtain ⟨Ao, co, Ar, cr, rfl, hob, -⟩ := hv0
 have hp := validB_iff.1 hval
 have hn1 : 1 ≤ p.n := hp.1
 have hnb : p.n ≤ 1000 := hp.2.1
 have hoc := hob.1
 obtain ⟨F, hF⟩ : ∃ F, F = bndB p ny y := ⟨_, rfl⟩
 have HP : Hid (∀ e w', BndC w p ny y T e w' ↔ ((F = false ∧ e = .returned (.tuple #[.agg #[.bool false, .slice none 0 0, .bool false, .slice none 0 0], .bool false])) ∨
  (F = true ∧ ∃ q A n c q' A' n' c', e = .returned (.tuple #[.agg #[.bool q, .slice A n c, .bool q', .slice A' n' c'], .bool true]) ∧ RatB w' (.agg #[.bool q, .slice A n c, .bool q', .slice A' n' c']) (p.rhs y) T)) ∧ Ext w w') := Lib.hid (fun e w' => by rw [hF]; exact Iff.rfl)
 have HF : Hid (F = (q03 p ny y && geB (p.left y) p.obj p.n)) := Lib.hid (by rw [hF]; rfl)
 have HC := Lib.hid hc
 have HR := Lib.hid hr
 have HO := Lib.hid ho
 have HY := Lib.hid hq
 have HT := Lib.hid hT
 have HV := Lib.hid hval
 clear hc hr ho hq hT hval hp hF
 obtain ⟨PB, ZB, hE0⟩ := qwt w 41 58 #[.slice Ao p.n co, .slice Ar p.m cr] #[.bool false, .slice none 0 0, .bool false, .slice none 0 0]
 go_enter Tryz.func51, Tryz.ntmps51
 go_upto_region 1 with fail
 generalize ((w.alloc (.cells #[.slice Ao p.n co, .slice Ar p.m cr] 41)).alloc (.cells #[.bool false, .slice none 0 0, .bool false, .slice none 0 0] 58)) = V at *
 obtain ⟨zb, hzb⟩ : ∃ x, x = w.heap.size + 1 := ⟨_, rfl⟩
 obtain ⟨pb, hpb⟩ : ∃ x, x = w.heap.size := ⟨_, rfl⟩
 rw [← hzb] at ZB ⊢
 rw [← hpb] at PB ⊢
 have hw4 : w.heap.size ≤ zb := by omega
 clear hzb hpb
 have c0 := PB.c0
 have c1 := PB.c1
 have hvV := hv.ext hE0
 go_wp2_with fail
 refine (q7i _ p Ay ny cy y Kc Kr Ky T _ hvV HV.out (hy.ext hE0) HC.out HR.out HY.out HT.out hT2 hT3).mono ?_
 rintro e w1 ⟨hcase, hx1⟩
 have hE1 := hE0.trans hx1
 have PB := PB.ext hx1
 have ZB := ZB.ext hx1
 have hob1 := hob.ext hE1
 clear hx1 hvV c0 c1 hE0 hob
 rcases hcase with ⟨hcb, rfl⟩ | ⟨hcb, bl, q, A, n1, c, q', A', n1', c', f, z, rfl, hL, hZ, hB, hlf, hrh⟩
 ·have HE : Hid (F = false) := Lib.hid (by rw [HF.out, hcb]; rfl)
  clear hcb PB
  go_upto_region 2 with fail
  have hx6 : Ext w1 (w1.alloc (.cells #[.bool false, .slice none 0 0, .bool false, .slice none 0 0] 58)) := (Ext.refl w1).alloc _
  generalize (w1.alloc (.cells #[.bool false, .slice none 0 0, .bool false, .slice none 0 0] 58)) = U at *
  have ZB := ZB.ext hx6
  have hE2 := hE1.trans hx6
  have z0 := ZB.c0
  have z1 := ZB.c1
  have z2 := ZB.c2
  have z3 := ZB.c3
  have f0 := ZB.frozen 0
  have f1 := ZB.frozen 1
  have f2 := ZB.frozen 2
  have f3 := ZB.frozen 3
  have hb4 := ZB.set4 (.bool false) (.slice none 0 0) (.bool false) (.slice none 0 0)
  have pc0 := hb4.c0
  have pc1 := hb4.c1
  have pc2 := hb4.c2
  have pc3 := hb4.c3
  go_wp2_with fail
  refine bodyPost_ret (v := .tuple #[.agg #[.bool false, .slice none 0 0, .bool false, .slice none 0 0], .bool false]) (by simp [results, Tryz.results51, go_sem, pc0, pc1, pc2, pc3]) rfl ?_
  rw [HP.out]
  exact ⟨.inl ⟨HE.out, rfl⟩, ext4 hw4 hE2 (.bool false) (.slice none 0 0) (.bool false) (.slice none 0 0)⟩
 ·subst hrh
  have HFE : Hid (F = geB f p.obj p.n) := Lib.hid (by rw [HF.out, hcb, geB_congr hlf]; rfl)
  have HB := Lib.hid hB
  clear hcb hlf hB
  go_upto_region 2 with fail
  have B8 := Box.new w1 58 #[.bool q, .slice A n1 c, .bool q', .slice A' n1' c']
  have hx6 : Ext w1 (w1.alloc (.cells #[.bool q, .slice A n1 c, .bool q', .slice A' n1' c'] 58)) := (Ext.refl w1).alloc _
  generalize (w1.alloc (.cells #[.bool q, .slice A n1 c, .bool q', .slice A' n1' c'] 58)) = U at *
  obtain ⟨b8, hb8⟩ : ∃ x, x = w1.heap.size := ⟨_, rfl⟩
  rw [← hb8] at B8 ⊢
  clear hb8
  have hL := hL.ext hx6
  have hZ := hZ.ext hx6
  have PB := PB.ext hx6
  have ZB := ZB.ext hx6
  have hob := hob1.ext hx6
  have hE2 := hE1.trans hx6
  clear hx6 hE1 hob1
  have c0 := PB.c0
  have en : ((p.n : Int) == 0) = false := by simp; omega
  go_wp2_with fail
  clear c0 en
  go_loopw [29] (fun i wr => ∃ j : Nat, j ≤ p.n ∧ i = .int .i64 j ∧ Hid (geB f p.obj j = true) ∧ Ext U wr) (fun i _ => p.n - (intOf i).toNat)
  case atStart => exact ⟨0, by omega, rfl, Lib.hid rfl, Ext.refl U⟩
  case round =>
   obtain ⟨j, hj, rfl, HJ, hx⟩ := hrel
   by_cases hlt : j < p.n
   ·obtain ⟨p3, A3, m3, c3, p3', A3', m3', c3', a0, a1, a2, a3, hr3⟩ := (hL.ext hx).at hlt
    obtain ⟨bo, rfl, hRo⟩ := hob.2.2 (by omega)
    obtain ⟨p4, A4, m4, c4, p4', A4', m4', c4', g0, g1, g2, g3, hr4⟩ := (hRo.ext hx).at hlt
    go_upto_region 7 with fail
    have Bx := Box.new wr 58 #[.bool p3, .slice A3 m3 c3, .bool p3', .slice A3' m3' c3']
    have hEx : Ext wr (wr.alloc (.cells #[.bool p3, .slice A3 m3 c3, .bool p3', .slice A3' m3' c3'] 58)) := (Ext.refl wr).alloc _
    generalize (wr.alloc (.cells #[.bool p3, .slice A3 m3 c3, .bool p3', .slice A3' m3' c3'] 58)) = X at *
    have hx := hx.trans hEx
    have hF : RatB X _ (f j) T := ⟨hr3.ext hEx, HB.out j hlt⟩
    have hG : RatB X _ (p.obj j) Ko := ⟨hr4.ext hEx, HO.out j hlt⟩
    have PBx := PB.ext hx
    have k30 : ∀ w', Later X w' → w'.cell? ⟨pb, 0, none⟩ = some _ := fun w' h => (PBx.ext h).c0
    have ko0 : ∀ w', Later X w' → w'.cell? ⟨bo, j * 4, none⟩ = some _ := fun w' h => Later.cell h (hEx.cell g0)
    have ko1 : ∀ w', Later X w' → w'.cell? ⟨bo, j * 4 + 1, none⟩ = some _ := fun w' h => Later.cell h (hEx.cell g1)
    have ko2 : ∀ w', Later X w' → w'.cell? ⟨bo, j * 4 + 2, none⟩ = some _ := fun w' h => Later.cell h (hEx.cell g2)
    have ko3 : ∀ w', Later X w' → w'.cell? ⟨bo, j * 4 + 3, none⟩ = some _ := fun w' h => Later.cell h (hEx.cell g3)
    have kx0 : ∀ w', Later X w' → w'.cell? ⟨_, 0, none⟩ = some _ := fun w' h => (Bx.ext h).c0
    have kx1 : ∀ w', Later X w' → w'.cell? ⟨_, 1, none⟩ = some _ := fun w' h => (Bx.ext h).c1
    have kx2 : ∀ w', Later X w' → w'.cell? ⟨_, 2, none⟩ = some _ := fun w' h => (Bx.ext h).c2
    have kx3 : ∀ w', Later X w' → w'.cell? ⟨_, 3, none⟩ = some _ := fun w' h => (Bx.ext h).c3
    have ks := Later.refl X
    obtain ⟨S, hS⟩ : ∃ S, S = decide (p.obj j ≤ f j) := ⟨_, rfl⟩
    have HSY : Hid (S = true → geB f p.obj (j + 1) = true) := Lib.hid (fun h => by show (geB f p.obj j && decide (p.obj j ≤ f j)) = true; rw [HJ.out, ← hS, h]; rfl)
    have HSN : Hid (S = false → F = false) := Lib.hid (fun h => by
     rw [HFE.out]
     cases e : geB f p.obj p.n with
     | false => rfl
     | true => rw [hS] at h; exact absurd (geB_iff.1 e j hlt) (of_decide_eq_false h))
    obtain ⟨cq, hcq⟩ : ∃ c, c = cmpQ (f j) (p.obj j) := ⟨_, rfl⟩
    have e9 : decide (cq < 0) = !S := by
     rw [hcq, hS]
     rcases qq3 (f j) (p.obj j) with ⟨a, b⟩ | ⟨a, b⟩ | ⟨a, b⟩ <;> rw [b]
     ·have : ¬ p.obj j ≤ f j := Rat.not_le.2 a
      simp [this]
     ·have : p.obj j ≤ f j := by rw [a]; exact Rat.le_refl
      simp [this]
     ·have : p.obj j ≤ f j := Rat.le_of_lt a
      simp [this]
    have HCQ := Lib.hid hcq
    have i1 : (0 : Int) ≤ (j : Int) := by omega
    have i2 : (j : Int) < (p.n : Int) := by omega
    clear a0 a1 a2 a3 g0 g1 g2 g3 hcq hr3 hr4 hS HJ
    go_region_held3 (fun w' => Later X w') ((repeat (first | assumption | apply Later.drew | apply Later.drewN | apply Later.alloc | (refine Later.step ?_ (by assumption))))) (first
     | (go_at_call 23; (with_reducible refine (q8w _ _ _ _ _ _ _ (RatB.ext hF eAx) (RatB.ext hG eAx) (by omega)).mono ?_); rintro e wk ⟨rfl, hxk⟩; rw [← HCQ.out])
     )
    all_goals (
     have hxk2 : Ext X wk := by assumption
     have hxx := hx.trans hxk2
     clear k30 ko0 ko1 ko2 ko3 kx0 kx1 kx2 kx3
     cases S with
     | true =>
       have HN1 : Hid (geB f p.obj (j + 1) = true) := Lib.hid (HSY.out rfl)
       clear HSY HSN
       go_wp2_with fail
       go_roundw
       case rel => first | exact ⟨j + 1, by omega, by go_num, HN1, hxx⟩ | ((repeat (apply Exists.intro (α := Value))); exact ⟨⟨j + 1, by omega, by go_num, HN1, hxx⟩, rfl⟩)
       case measure => simp [intOf]; omega
     | false =>
       have HE : Hid (F = false) := Lib.hid (HSN.out rfl)
       clear HSY HSN
       have ZX := ZB.ext hxx
       have z0 := ZX.c0
       have z1 := ZX.c1
       have z2 := ZX.c2
       have z3 := ZX.c3
       have f0 := ZX.frozen 0
       have f1 := ZX.frozen 1
       have f2 := ZX.frozen 2
       have f3 := ZX.frozen 3
       have hb4 := ZX.set4 (.bool false) (.slice none 0 0) (.bool false) (.slice none 0 0)
       have pc0 := hb4.c0
       have pc1 := hb4.c1
       have pc2 := hb4.c2
       have pc3 := hb4.c3
       go_wp2_with fail
       refine bodyPost_ret (v := .tuple #[.agg #[.bool false, .slice none 0 0, .bool false, .slice none 0 0], .bool false]) (by simp [results, Tryz.results51, go_sem, pc0, pc1, pc2, pc3]) rfl ?_
       rw [HP.out]
       exact ⟨.inl ⟨HE.out, rfl⟩, ext4 hw4 (hE2.trans hxx) (.bool false) (.slice none 0 0) (.bool false) (.slice none 0 0)⟩)
   ·obtain rfl : j = p.n := by omega
    have HE : Hid (F = true) := Lib.hid (by rw [HFE.out, HJ.out])
    have B7 := B8.ext hx
    have Z7 := ZB.ext hx
    have x0 := B7.c0
    have x1 := B7.c1
    have x2 := B7.c2
    have x3 := B7.c3
    have z0 := Z7.c0
    have z1 := Z7.c1
    have z2 := Z7.c2
    have z3 := Z7.c3
    have f0 := Z7.frozen 0
    have f1 := Z7.frozen 1
    have f2 := Z7.frozen 2
    have f3 := Z7.frozen 3
    have hZ7 := hZ.ext hx
    obtain ⟨pp, hb4⟩ := RatV.put hZ7.1 Z7
    have pc0 := hb4.c0
    have pc1 := hb4.c1
    have pc2 := hb4.c2
    have pc3 := hb4.c3
    go_wp2_with fail
    refine bodyPost_ret (v := .tuple #[.agg #[.bool q, .slice A n1 c, .bool q', .slice A' n1' c'], .bool true]) (by simp [results, Tryz.results51, go_sem, pc0, pc1, pc2, pc3]) rfl ?_
    rw [HP.out]
    exact ⟨.inr ⟨HE.out, q, A, n1, c, q', A', n1', c', rfl, ⟨pp, hZ7.2⟩⟩, ext4 hw4 (hE2.trans hx) (.bool q) (.slice A n1 c) (.bool q') (.slice A' n1' c')⟩
def q42 (p : Prob) (ny : Nat) (y : Nat → Rat) (z : Rat) : Bool := qba p && (bndB p ny y && decide (p.rhs y ≤ z))
def empB (p : Prob) (ny : Nat) (y : Nat → Rat) : Bool := qba p && pntB p ny y
set_option maxHeartbeats 8000000 in
set_option maxRecDepth 100000 in
theorem Empty_b (v : Value) (p : Prob) (Ay : Option Addr) (ny cy : Nat) (y : Nat → Rat) (Kc Kr Ky T : Nat) (w : World) (hv : qga w v p) (hy : q94 w Ay ny cy y)
 (hc : ∀ i, i < p.m → ∀ j, j < p.n → QB Kc (p.coef i j)) (hr : ∀ i, i < p.m → QB Kr (p.right i)) (hq : ∀ j, j < ny → QB Ky (y j)) (hT : 1 + p.m * (Kc + Kr + Ky + 1) ≤ T) (hT2 : T ≤ 137438953472) (hT3 : Kc + Kr + Ky ≤ 137438953472) :
 Calls Tryz.prog 55 #[v, .slice Ay ny cy] w (qjz w (.bool (empB p ny y))) := by
 have hv0 := hv
 obtain ⟨Ao, co, Ar, cr, rfl, -⟩ := hv0
 have HC := Lib.hid hc
 have HR := Lib.hid hr
 have HY := Lib.hid hq
 have HT := Lib.hid hT
 clear hc hr hq hT
 obtain ⟨F, hF⟩ : ∃ F, F = empB p ny y := ⟨_, rfl⟩
 obtain ⟨B, hB⟩ : ∃ F, F = qba p := ⟨_, rfl⟩
 have HF : Hid (F = (B && pntB p ny y)) := Lib.hid (by rw [hF, hB]; rfl)
 rw [← hF]
 clear hF
 have PB := Box.new w 41 #[.slice Ao p.n co, .slice Ar p.m cr]
 have hE0 : Ext w (w.alloc (.cells #[.slice Ao p.n co, .slice Ar p.m cr] 41)) := (Ext.refl w).alloc _
 go_enter Tryz.func55, Tryz.ntmps55
 go_upto_region 1 with fail
 generalize (w.alloc (.cells #[.slice Ao p.n co, .slice Ar p.m cr] 41)) = V at *
 have c0 := PB.c0
 have c1 := PB.c1
 have hvV := hv.ext hE0
 go_wp2_with fail
 refine (q72 _ p _ hvV).mono ?_
 rintro e w1 ⟨rfl, hx1⟩
 have hE1 := hE0.trans hx1
 have hv1 := hv.ext hE1
 have hy1 := hy.ext hE1
 have PB := PB.ext hx1
 have c0 := PB.c0
 have c1 := PB.c1
 rw [← hB]
 cases B with
 | false =>
   clear hB
   go_wp2_with fail
   go_ret
   exact ⟨by rw [HF.out]; rfl, hE1⟩
 | true =>
   have HV : Hid (qba p = true) := Lib.hid hB.symm
   clear hB
   go_wp2_with fail
   refine (qdi _ p Ay ny cy y Kc Kr Ky T _ hv1 HV.out hy1 HC.out HR.out HY.out HT.out hT2 hT3).mono ?_
   rintro e w2 ⟨rfl, hx2⟩
   obtain ⟨P, hP⟩ : ∃ P, P = pntB p ny y := ⟨_, rfl⟩
   rw [← hP] at HF ⊢
   clear hP c0 c1
   go_wp2_with fail
   go_ret
   exact ⟨by rw [HF.out]; cases P <;> rfl, hE1.trans hx2⟩
set_option maxHeartbeats 8000000 in
set_option maxRecDepth 100000 in
theorem Leaf_b (v : Value) (p : Prob) (vz : Value) (z : Rat) (Ay : Option Addr) (ny cy : Nat) (y : Nat → Rat) (Kc Kr Ko Ky Kz T : Nat) (w : World) (hv : qga w v p) (hz : RatB w vz z Kz) (hy : q94 w Ay ny cy y)
 (hc : ∀ i, i < p.m → ∀ j, j < p.n → QB Kc (p.coef i j)) (hr : ∀ i, i < p.m → QB Kr (p.right i)) (ho : ∀ j, j < p.n → QB Ko (p.obj j)) (hq : ∀ j, j < ny → QB Ky (y j)) (hT : 1 + p.m * (Kc + Kr + Ky + 1) ≤ T) (hT2 : T ≤ 137438953472) (hT3 : Kc + Kr + Ky ≤ 137438953472) (hT4 : Ko ≤ 137438953472) (hT5 : Kz ≤ 137438953472) :
 Calls Tryz.prog 30 #[v, vz, .slice Ay ny cy] w (qjz w (.bool (q42 p ny y z))) := by
 have hv0 := hv
 obtain ⟨Ao, co, Ar, cr, rfl, -⟩ := hv0
 obtain ⟨zp, zA, zn, zc, zp', zA', zn', zc', rfl⟩ := hz.1.shape
 have HC := Lib.hid hc
 have HR := Lib.hid hr
 have HO := Lib.hid ho
 have HY := Lib.hid hq
 have HT := Lib.hid hT
 clear hc hr ho hq hT
 obtain ⟨F, hF⟩ : ∃ F, F = q42 p ny y z := ⟨_, rfl⟩
 obtain ⟨B, hB⟩ : ∃ F, F = qba p := ⟨_, rfl⟩
 have HF : Hid (F = (B && (bndB p ny y && decide (p.rhs y ≤ z)))) := Lib.hid (by rw [hF, hB]; rfl)
 rw [← hF]
 clear hF
 obtain ⟨PB, ZB, hE0⟩ := qwt w 41 58 #[.slice Ao p.n co, .slice Ar p.m cr] #[.bool zp, .slice zA zn zc, .bool zp', .slice zA' zn' zc']
 go_enter Tryz.func30, Tryz.ntmps30
 go_upto_region 1 with fail
 generalize ((w.alloc (.cells #[.slice Ao p.n co, .slice Ar p.m cr] 41)).alloc (.cells #[.bool zp, .slice zA zn zc, .bool zp', .slice zA' zn' zc'] 58)) = V at *
 have c0 := PB.c0
 have c1 := PB.c1
 have hvV := hv.ext hE0
 go_wp2_with fail
 refine (q72 _ p _ hvV).mono ?_
 rintro e w1 ⟨rfl, hx1⟩
 have hE1 := hE0.trans hx1
 have hv1 := hv.ext hE1
 have hy1 := hy.ext hE1
 have PB := PB.ext hx1
 have ZB := ZB.ext hx1
 have c0 := PB.c0
 have c1 := PB.c1
 rw [← hB]
 cases B with
 | false =>
   clear hB
   go_wp2_with fail
   go_ret
   exact ⟨by rw [HF.out]; rfl, hE1⟩
 | true =>
   have HV : Hid (qba p = true) := Lib.hid hB.symm
   clear hB
   go_wp2_with fail
   refine (qp8 _ p Ay ny cy y Kc Kr Ko Ky T _ hv1 HV.out hy1 HC.out HR.out HO.out HY.out HT.out hT2 hT3 hT4).mono ?_
   rintro e w2 ⟨hcase, hx2⟩
   have hE2 := hE1.trans hx2
   have ZB := ZB.ext hx2
   clear c0 c1 PB
   rcases hcase with ⟨hb, rfl⟩ | ⟨hb, q, A, n1, c, q', A', n1', c', rfl, hS⟩
   ·have HE : Hid (F = false) := Lib.hid (by rw [HF.out, hb]; rfl)
    clear hb
    go_upto_region 4 with fail
    have hx6 : Ext w2 (w2.alloc (.cells #[.bool false, .slice none 0 0, .bool false, .slice none 0 0] 58)) := (Ext.refl w2).alloc _
    generalize (w2.alloc (.cells #[.bool false, .slice none 0 0, .bool false, .slice none 0 0] 58)) = U at *
    go_wp2_with fail
    go_ret
    exact ⟨by rw [HE.out]; rfl, hE2.trans hx6⟩
   ·have HE : Hid (F = decide (p.rhs y ≤ z)) := Lib.hid (by rw [HF.out, hb]; rfl)
    clear hb
    go_upto_region 4 with fail
    have B8 := Box.new w2 58 #[.bool q, .slice A n1 c, .bool q', .slice A' n1' c']
    have hx6 : Ext w2 (w2.alloc (.cells #[.bool q, .slice A n1 c, .bool q', .slice A' n1' c'] 58)) := (Ext.refl w2).alloc _
    generalize (w2.alloc (.cells #[.bool q, .slice A n1 c, .bool q', .slice A' n1' c'] 58)) = U at *
    have ZB := ZB.ext hx6
    have hE3 := hE2.trans hx6
    have hS := hS.ext hx6
    have hz3 := hz.ext hE3
    have x0 := B8.c0
    have x1 := B8.c1
    have x2 := B8.c2
    have x3 := B8.c3
    have y0 := ZB.c0
    have y1 := ZB.c1
    have y2 := ZB.c2
    have y3 := ZB.c3
    go_wp2_with fail
    refine (q8w _ _ _ _ _ _ _ hS hz3 (by omega)).mono ?_
    rintro e w9 ⟨rfl, hx9⟩
    obtain ⟨S, hS⟩ : ∃ S, S = decide (p.rhs y ≤ z) := ⟨_, rfl⟩
    obtain ⟨cq, hcq⟩ : ∃ c, c = cmpQ (p.rhs y) z := ⟨_, rfl⟩
    have e9 : decide (cq ≤ 0) = S := by
     rw [hcq, hS]
     rcases qq3 (p.rhs y) z with ⟨a, b⟩ | ⟨a, b⟩ | ⟨a, b⟩ <;> rw [b]
     ·have : p.rhs y ≤ z := Rat.le_of_lt a
      simp [this]
     ·have : p.rhs y ≤ z := by rw [a]; exact Rat.le_refl
      simp [this]
     ·have : ¬ p.rhs y ≤ z := Rat.not_le.2 a
      simp [this]
    rw [← hcq]
    rw [← hS] at HE
    clear hcq hS x0 x1 x2 x3 y0 y1 y2 y3
    go_wp2_with fail
    go_ret
    exact ⟨by rw [HE.out]; cases S <;> rfl, hE3.trans hx9⟩
theorem qj0 (v : Value) (p : Prob) (Ay : Option Addr) (ny cy : Nat) (y : Nat → Rat) (Kc Kr Ko Ky T : Nat) (w : World) (hv : qga w v p) (hval : qba p = true) (hy : q94 w Ay ny cy y)
 (hc : ∀ i, i < p.m → ∀ j, j < p.n → QB Kc (p.coef i j)) (hr : ∀ i, i < p.m → QB Kr (p.right i)) (ho : ∀ j, j < p.n → QB Ko (p.obj j)) (hq : ∀ j, j < ny → QB Ky (y j)) (hT : 1 + p.m * (Kc + Kr + Ky + 1) ≤ T) (hT2 : T ≤ 137438953472) (hT3 : Kc + Kr + Ky ≤ 137438953472) (hT4 : Ko ≤ 137438953472) :
 Calls Tryz.prog 51 #[v, .slice Ay ny cy] w (fun e w' => ∃ q A n c q' A' n' c', e = .returned (.tuple #[.agg #[.bool q, .slice A n c, .bool q', .slice A' n' c'], .bool (bndB p ny y)]) ∧ (bndB p ny y = true → RatB w' (.agg #[.bool q, .slice A n c, .bool q', .slice A' n' c']) (p.rhs y) T) ∧ Ext w w') := by
 refine (qp8 v p Ay ny cy y Kc Kr Ko Ky T w hv hval hy hc hr ho hq hT hT2 hT3 hT4).mono ?_
 rintro e w' ⟨⟨hb, rfl⟩ | ⟨hb, q, A, n, c, q', A', n', c', rfl, h⟩, hx⟩
 ·refine ⟨false, none, 0, 0, false, none, 0, 0, by rw [hb], ?_, hx⟩
  intro h
  rw [hb] at h
  cases h
 ·exact ⟨q, A, n, c, q', A', n', c', by rw [hb], fun _ => h, hx⟩
end Go.Proofs.YtljncdcjkdgkeaaGreatDoor.Lp
