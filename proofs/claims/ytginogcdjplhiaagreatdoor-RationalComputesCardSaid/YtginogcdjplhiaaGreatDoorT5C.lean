/- For the walks of Floor and Ceil: what a statement with two new boxes leaves. Walk: the rational numbers' Floor. Walk: the rational numbers' Ceil. -/
import Derived.Test.YtginogcdjplhiaaGreatDoorT4
import Derived.Test.YtginogcdjplhiaaGreatDoorP2
set_option linter.unusedVariables false
set_option linter.unusedSimpArgs false
namespace Go.Proofs.YtginogcdjplhiaaGreatDoor.Big
open Go.RowKit
section
variable {w : World} {b c : Nat} {E : TypeId} {cs : Array Value}
theorem Box.p2 {x y : Value} (h : Box w b E #[x, y]) (x' y' : Value) : Box ((w.setCell ⟨b, 0, none⟩ x').setCell ⟨b, 1, none⟩ y') b E #[x', y'] := h.put2 x' y'
theorem Box.f2 (h : Box w b E cs) (hne : b ≠ c) (x y : Value) : Box ((w.setCell ⟨c, 0, none⟩ x).setCell ⟨c, 1, none⟩ y) b E cs := (h.far (p := ⟨c, 0, none⟩) hne x).far (p := ⟨c, 1, none⟩) hne y
theorem BigV.s2 {p q : Bool} {A A' : Option Addr} {n m n' m' : Nat} {v : Value} {z : Int} (h : BigV w v z) (hb : Box w c E #[.bool p, .slice A n m]) : BigV ((w.setCell ⟨c, 0, none⟩ (.bool q)).setCell ⟨c, 1, none⟩ (.slice A' n' m')) v z :=
  (h.far hb rfl rfl 0 _).far (hb.set 0 (.bool q)) rfl rfl 1 _
end
theorem boxA {w w' : World} {E : TypeId} {cs : Array Value} (h : Ext (w.alloc (.cells cs E)) w') : Box w' w.heap.size E cs := (Box.new w E cs).ext h
theorem boxB0 {w w' : World} {E0 E1 : TypeId} {c0 c1 : Array Value} (h : Ext ((w.alloc (.cells c0 E0)).alloc (.cells c1 E1)) w') : Box w' w.heap.size E0 c0 := ((Box.new w E0 c0).alloc _).ext h
theorem boxB1 {w w' : World} {E0 E1 : TypeId} {c0 c1 : Array Value} (h : Ext ((w.alloc (.cells c0 E0)).alloc (.cells c1 E1)) w') : Box w' (w.heap.size + 1) E1 c1 := by
  have := Box.new (w.alloc (.cells c0 E0)) E1 c1
  rw [show (w.alloc (.cells c0 E0)).heap.size = w.heap.size + 1 by simp] at this
  exact this.ext h
theorem boxAd {w w' : World} {E : TypeId} {cs : Array Value} (h : Ext (w.alloc (.cells cs E)).drew w') : Box w' w.heap.size E cs := (Box.new w E cs).drew.ext h
theorem boxB0d {w w' : World} {E0 E1 : TypeId} {c0 c1 : Array Value} (h : Ext ((w.alloc (.cells c0 E0)).alloc (.cells c1 E1)).drew w') : Box w' w.heap.size E0 c0 := ((Box.new w E0 c0).alloc _).drew.ext h
theorem boxB1d {w w' : World} {E0 E1 : TypeId} {c0 c1 : Array Value} (h : Ext ((w.alloc (.cells c0 E0)).alloc (.cells c1 E1)).drew w') : Box w' (w.heap.size + 1) E1 c1 := by
  have := Box.new (w.alloc (.cells c0 E0)) E1 c1
  rw [show (w.alloc (.cells c0 E0)).heap.size = w.heap.size + 1 by simp] at this
  exact this.drew.ext h
theorem Box.new1 (w : World) (E0 E1 : TypeId) (c0 c1 : Array Value) : Box ((w.alloc (.cells c0 E0)).alloc (.cells c1 E1)) (w.heap.size + 1) E1 c1 := by
  have := Box.new (w.alloc (.cells c0 E0)) E1 c1
  rwa [show (w.alloc (.cells c0 E0)).heap.size = w.heap.size + 1 by simp] at this
theorem BigV.al {w : World} {v : Value} {z : Int} (h : BigV w v z) (o : Obj) : BigV (w.alloc o) v z := h.ext ((Ext.refl w).alloc o)
end Go.Proofs.YtginogcdjplhiaaGreatDoor.Big
namespace Go.Proofs.YtginogcdjplhiaaGreatDoor.Rt
open Go.RowKit Go.Proofs.YtginogcdjplhiaaGreatDoor.Big
attribute [local go_sem] Go.World.cell?_alloc_some Go.RowKit.frozen?_alloc_cells

def floorZ (q : Rat) : Int := q.num / q.den
def ceilZ (q : Rat) : Int := -((-q.num) / q.den)
theorem tdiv_floor {n d : Int} (hd : 0 < d) : (n.tmod d < 0 → n.tdiv d - 1 = n / d) ∧ (¬ n.tmod d < 0 → n.tdiv d = n / d) := by
  have h1 := Int.mul_tdiv_add_tmod n d
  have h2 := Int.mul_ediv_add_emod n d
  have h3 := Int.emod_nonneg n (show d ≠ 0 by omega)
  have h4 := Int.emod_lt_of_pos n hd
  have h5 : (n.tmod d).natAbs < d.natAbs := by rw [Int.natAbs_tmod]; exact Nat.mod_lt _ (by omega)
  refine ⟨fun h => ?_, fun h => ?_⟩
  · have e : d * (n.tdiv d - 1 - n / d) = n % d - n.tmod d - d := by rw [Int.mul_sub, Int.mul_sub]; omega
    have h6 : n.tdiv d - 1 - n / d < 1 := by
      refine Int.lt_of_mul_lt_mul_left (a := d) ?_ (by omega)
      rw [e]; omega
    have h7 : -1 < n.tdiv d - 1 - n / d := by
      refine Int.lt_of_mul_lt_mul_left (a := d) ?_ (by omega)
      rw [e]; omega
    omega
  · have e : d * (n.tdiv d - n / d) = n % d - n.tmod d := by rw [Int.mul_sub]; omega
    have h6 : n.tdiv d - n / d < 1 := by
      refine Int.lt_of_mul_lt_mul_left (a := d) ?_ (by omega)
      rw [e]; omega
    have h7 : -1 < n.tdiv d - n / d := by
      refine Int.lt_of_mul_lt_mul_left (a := d) ?_ (by omega)
      rw [e]; omega
    omega
theorem tdiv_ceil {n d : Int} (hd : 0 < d) : (0 < n.tmod d → n.tdiv d + 1 = -((-n) / d)) ∧ (¬ 0 < n.tmod d → n.tdiv d = -((-n) / d)) := by
  have h := tdiv_floor (n := -n) hd
  rw [Int.neg_tmod, Int.neg_tdiv] at h
  exact ⟨fun h' => by have := h.1 (by omega); omega, fun h' => by have := h.2 (by omega); omega⟩

/-- what the statement 'q, r, _ := x.Div(y)' leaves -/
def FC (W0 : World) (X Y : Int) (v u er : Value) (wx : World) : Prop := ∃ (b c n m n' m' : Nat) (p p' : Bool) (A A' : Option Addr), v = .pointer (some ⟨b, 0, none⟩) ∧ u = .pointer (some ⟨c, 0, none⟩) ∧ er = .int .i64 0 ∧ Box wx b 26 #[.bool p, .slice A n m] ∧ Box wx c 26 #[.bool p', .slice A' n' m'] ∧ BigV wx (.agg #[.bool p, .slice A n m]) X ∧ BigV wx (.agg #[.bool p', .slice A' n' m']) Y ∧ Ext W0 wx ∧ W0.heap.size ≤ b
section
variable {W0 w : World} {X Y : Int} {n m n' m' k0 l0 k1 l1 : Nat} {p p' o0 o1 : Bool} {A A' D0 D1 : Option Addr}
theorem FC.way1 (h : BigV w (.agg #[.bool p, .slice A n m]) X) (h' : BigV w (.agg #[.bool p', .slice A' n' m']) Y) (hS : Later W0 w) :
    FC W0 X Y (.pointer (some ⟨w.heap.size, 0, none⟩)) (.pointer (some ⟨w.heap.size + 1, 0, none⟩)) (.int .i64 0) ((w.alloc (.cells #[.bool p, .slice A n m] 26)).alloc (.cells #[.bool p', .slice A' n' m'] 26)) :=
  ⟨_, _, _, _, _, _, _, _, _, _, rfl, rfl, rfl, (Box.new _ _ _).alloc _, Box.new1 _ _ _ _ _, (h.al _).al _, (h'.al _).al _, Ext.alloc (Ext.alloc hS _) _, Ext.size hS⟩
theorem FC.way2 (h : BigV w (.agg #[.bool p, .slice A n m]) X) (h' : BigV w (.agg #[.bool p', .slice A' n' m']) Y) (hS : Later W0 w) :
    FC W0 X Y (.pointer (some ⟨w.heap.size + 1, 0, none⟩)) (.pointer (some ⟨w.heap.size, 0, none⟩)) (.int .i64 0) ((w.alloc (.cells #[.bool p', .slice A' n' m'] 26)).alloc (.cells #[.bool p, .slice A n m] 26)) :=
  ⟨_, _, _, _, _, _, _, _, _, _, rfl, rfl, rfl, Box.new1 _ _ _ _ _, (Box.new _ _ _).alloc _, (h.al _).al _, (h'.al _).al _, Ext.alloc (Ext.alloc hS _) _, Nat.le_succ_of_le (Ext.size hS)⟩
theorem FC.way3 {b c : Nat} (h : BigV w (.agg #[.bool p, .slice A n m]) X) (h' : BigV w (.agg #[.bool p', .slice A' n' m']) Y) (hS : Later W0 w)
    (hb : Box w b 26 #[.bool o0, .slice D0 k0 l0]) (hc : Box w c 26 #[.bool o1, .slice D1 k1 l1]) (hbc : ¬ b = c) (sb : W0.heap.size ≤ b) (sc : W0.heap.size ≤ c) :
    FC W0 X Y (.pointer (some ⟨b, 0, none⟩)) (.pointer (some ⟨c, 0, none⟩)) (.int .i64 0) ((((w.setCell ⟨b, 0, none⟩ (.bool p)).setCell ⟨b, 1, none⟩ (.slice A n m)).setCell ⟨c, 0, none⟩ (.bool p')).setCell ⟨c, 1, none⟩ (.slice A' n' m')) := by
  obtain ⟨w', rfl, h1, h2, h3, h4⟩ := two_put hbc h h' hb hc
  exact ⟨_, _, _, _, _, _, _, _, _, _, rfl, rfl, rfl, h3, h4, h1, h2, (((Ext.set hS sb _).set sb _).set sc _).set sc _, sb⟩
theorem FC.way4 {b : Nat} (h : BigV w (.agg #[.bool p, .slice A n m]) X) (h' : BigV w (.agg #[.bool p', .slice A' n' m']) Y) (hS : Later W0 w)
    (hb : Box w b 26 #[.bool o0, .slice D0 k0 l0]) (sb : W0.heap.size ≤ b) :
    FC W0 X Y (.pointer (some ⟨b, 0, none⟩)) (.pointer (some ⟨w.heap.size, 0, none⟩)) (.int .i64 0) (((((w.alloc (.cells #[.bool false, .slice none 0 0] 26)).setCell ⟨b, 0, none⟩ (.bool p)).setCell ⟨b, 1, none⟩ (.slice A n m)).setCell ⟨w.heap.size, 0, none⟩ (.bool p')).setCell ⟨w.heap.size, 1, none⟩ (.slice A' n' m')) :=
  FC.way3 (h.al _) (h'.al _) (Ext.alloc hS _) (hb.alloc _) (Box.new _ _ _) (by have := hb.lt; omega) sb (Ext.size hS)
theorem FC.way5 {c : Nat} (h : BigV w (.agg #[.bool p, .slice A n m]) X) (h' : BigV w (.agg #[.bool p', .slice A' n' m']) Y) (hS : Later W0 w)
    (hc : Box w c 26 #[.bool o1, .slice D1 k1 l1]) (sc : W0.heap.size ≤ c) :
    FC W0 X Y (.pointer (some ⟨w.heap.size, 0, none⟩)) (.pointer (some ⟨c, 0, none⟩)) (.int .i64 0) (((w.alloc (.cells #[.bool p, .slice A n m] 26)).setCell ⟨c, 0, none⟩ (.bool p')).setCell ⟨c, 1, none⟩ (.slice A' n' m')) :=
  ⟨_, _, _, _, _, _, _, _, _, _, rfl, rfl, rfl, (Box.new _ _ _).f2 (by have := hc.lt; omega) _ _, (hc.alloc _).p2 _ _, (h.al _).s2 (hc.alloc _), (h'.al _).s2 (hc.alloc _), ((Ext.alloc hS _).set sc _).set sc _, Ext.size hS⟩
end

end Go.Proofs.YtginogcdjplhiaaGreatDoor.Rt

namespace Go.Proofs.YtginogcdjplhiaaGreatDoor.Rt
open Go.RowKit Go.Proofs.YtginogcdjplhiaaGreatDoor.Big
attribute [local go_sem] Go.World.cell?_alloc_some Go.RowKit.frozen?_alloc_cells

set_option maxHeartbeats 16000000 in
theorem RatFloor_b (x : Value) (q : Rat) (k : Nat) (w : World) (hx : RatB w x q k) (hL : k ≤ 1099511627776) : Calls Tryz.prog 22 #[x] w (BigBPost w (floorZ q) (k + 1)) := by
  obtain ⟨p1, A1, n1, c1, p1', A1', n1', c1', rfl⟩ := hx.1.shape
  obtain ⟨Z, hZ⟩ : ∃ Z, Z = floorZ q := ⟨_, rfl⟩
  rw [← hZ]
  have HZ := Lib.hid hZ
  clear hZ
  go_enter Tryz.func22, Tryz.ntmps22
  go_wp2_with fail
  obtain ⟨B0, B1, hE0⟩ := boxesT2 w 28 26 #[.bool p1, .slice A1 n1 c1, .bool p1', .slice A1' n1' c1'] #[.bool false, .slice none 0 0]
  have hX := hx.ext hE0
  have hXn := hX.numB
  have hsz : ((w.alloc (.cells #[.bool p1, .slice A1 n1 c1, .bool p1', .slice A1' n1' c1'] 28)).alloc (.cells #[.bool false, .slice none 0 0] 26)).heap.size = w.heap.size + 1 + 1 := by simp
  generalize ((w.alloc (.cells #[.bool p1, .slice A1 n1 c1, .bool p1', .slice A1' n1' c1'] 28)).alloc (.cells #[.bool false, .slice none 0 0] 26)) = W0 at *
  obtain ⟨D, hD⟩ : ∃ D : Int, D = (q.den : Int) := ⟨_, rfl⟩
  have hD0 : 0 < D := by have := q.den_pos; omega
  have HD := Lib.hid hD
  have HD0 := Lib.hid hD0
  have HSZ := Lib.hid hsz
  clear hx hD hD0 hsz
  have hbn : q.num.natAbs < pw k := hXn.2
  have hXV := hXn.1
  go_upto_region 1 with fail
  go_cut [3, 4, 5] (fun v u er wx => FC W0 (q.num.tdiv D) (q.num.tmod D) v u er wx)
  case first =>
    have k00 : ∀ w', Later W0 w' → w'.cell? ⟨_, 0, none⟩ = some _ := fun w' h => (B0.ext h).c0
    have k01 : ∀ w', Later W0 w' → w'.cell? ⟨_, 1, none⟩ = some _ := fun w' h => (B0.ext h).c1
    have k02 : ∀ w', Later W0 w' → w'.cell? ⟨_, 2, none⟩ = some _ := fun w' h => (B0.ext h).c2
    have k03 : ∀ w', Later W0 w' → w'.cell? ⟨_, 3, none⟩ = some _ := fun w' h => (B0.ext h).c3
    have hS0 := Later.refl W0
    clear B0 B1
    go_region_held3 (fun w' => Later W0 w') ((repeat (first | assumption | apply Later.drew | apply Later.drewN | apply Later.alloc | (refine Later.set ?_ (by first | exact Nat.le_refl _ | exact Nat.le_succ _ | exact Later.size (by assumption) | exact Nat.le_succ_of_le (Later.size (by assumption))) _) | (refine Later.step ?_ (by assumption))))) (first
      | (go_at_call 34; (with_reducible refine (RatDen_b _ _ _ _ (hX.ext (by repeat (first | (with_reducible exact Ext.refl _) | (with_reducible apply Ext.drew) | (with_reducible apply Ext.drewN) | (with_reducible apply Ext.alloc))))).mono ?_); rintro e w1 ⟨v1, rfl, hb1, hx1⟩; (obtain ⟨p2, A2, n2, c2, rfl⟩ := hb1.1.shape); (have hbv := hb1.1; rw [← HD.out] at hbv); (have hS1 := Later.step (by assumption) hx1); (try (have e1 := boxAd hx1; have e11 := e1.c0; have e12 := e1.c1; have e13 := e1.frozen 0; have e14 := e1.frozen 1)); (try (have e1 := boxB0d hx1; have e11 := e1.c0; have e12 := e1.c1; have e13 := e1.frozen 0; have e14 := e1.frozen 1)); (try (have e2 := boxB1d hx1; have e21 := e2.c0; have e22 := e2.c1; have e23 := e2.frozen 0; have e24 := e2.frozen 1)); (try (have e1 := boxA hx1; have e11 := e1.c0; have e12 := e1.c1; have e13 := e1.frozen 0; have e14 := e1.frozen 1)); (try (have e1 := boxB0 hx1; have e11 := e1.c0; have e12 := e1.c1; have e13 := e1.frozen 0; have e14 := e1.frozen 1)); (try (have e2 := boxB1 hx1; have e21 := e2.c0; have e22 := e2.c1; have e23 := e2.frozen 0; have e24 := e2.frozen 1)))
      | (go_at_call 44; (with_reducible refine (Div_any _ _ q.num D k _ (hXV.ext (by repeat (first | (with_reducible exact Ext.refl _) | (with_reducible apply Ext.drew) | (with_reducible apply Ext.drewN) | (with_reducible apply Ext.alloc) | (with_reducible refine Ext.trans ?_ (by assumption))))) (hbv.ext (by repeat (first | (with_reducible exact Ext.refl _) | (with_reducible apply Ext.drew) | (with_reducible apply Ext.drewN) | (with_reducible apply Ext.alloc)))) hbn (by omega) (by have := HD0.out; omega)).mono ?_); rintro e w2 ⟨v2, v3, rfl, hb2, hb3, hx2⟩; (obtain ⟨p3, A3, n3, c3, rfl⟩ := hb2.shape); (obtain ⟨p4, A4, n4, c4, rfl⟩ := hb3.shape); (have hS2 := Later.step (by assumption) hx2); (have z1 := Ext.size hx1); (have z2 := Ext.size hx2); (try simp at z1); (try simp at z2); (try (have m1 : ¬ W0.heap.size = w1.heap.size := by omega)); (try (have m2 : ¬ w1.heap.size = W0.heap.size := by omega)); (try (have m3 : ¬ W0.heap.size = w2.heap.size := by omega)); (try (have m4 : ¬ w2.heap.size = W0.heap.size := by omega)); (try (have m5 : ¬ w1.heap.size = w2.heap.size := by omega)); (try (have m6 : ¬ w2.heap.size = w1.heap.size := by omega));  (try (have f1 := boxA hx2; have f11 := f1.c0; have f12 := f1.c1; have f13 := f1.frozen 0; have f14 := f1.frozen 1)); (try (have f1 := boxB0 hx2; have f11 := f1.c0; have f12 := f1.c1; have f13 := f1.frozen 0; have f14 := f1.frozen 1)); (try (have f2 := boxB1 hx2; have f21 := f2.c0; have f22 := f2.c1; have f23 := f2.frozen 0; have f24 := f2.frozen 1)); (try (have g1 := Box.ext e1 hx2; have g11 := g1.c0; have g12 := g1.c1; have g13 := g1.frozen 0; have g14 := g1.frozen 1)); (try (have g1 := Box.ext (Box.alloc e1 _) hx2; have g11 := g1.c0; have g12 := g1.c1; have g13 := g1.frozen 0; have g14 := g1.frozen 1)); (try (have g2 := Box.ext e2 hx2; have g21 := g2.c0; have g22 := g2.c1; have g23 := g2.frozen 0; have g24 := g2.frozen 1)))
      )
    all_goals (go_wp2_with fail; go_meet)
    all_goals first
      | (with_reducible exact FC.way1 hb2 hb3 hS2)
      | (with_reducible exact FC.way2 hb2 hb3 hS2)
      | (with_reducible exact FC.way3 hb2 hb3 hS2 (by with_reducible assumption) (by with_reducible assumption) (by omega) (by first | exact Nat.le_refl _ | exact Nat.le_succ _ | exact Later.size hS1 | exact Nat.le_succ_of_le (Later.size hS1)) (by first | exact Nat.le_refl _ | exact Nat.le_succ _ | exact Later.size hS1 | exact Nat.le_succ_of_le (Later.size hS1)))
      | (with_reducible exact FC.way4 hb2 hb3 hS2 (by with_reducible assumption) (by first | exact Nat.le_refl _ | exact Nat.le_succ _ | exact Later.size hS1 | exact Nat.le_succ_of_le (Later.size hS1)))
      | (with_reducible exact FC.way5 hb2 hb3 hS2 (by with_reducible assumption) (by first | exact Nat.le_refl _ | exact Nat.le_succ _ | exact Later.size hS1 | exact Nat.le_succ_of_le (Later.size hS1)))
  case rest =>
    obtain ⟨b, c, n, m, n', m', p, p', A, A', rfl, rfl, rfl, B3, B4, h3, h4, hx1, hbb⟩ := hcut
    have BR := B1.ext hx1
    have hE1 := hE0.trans hx1
    obtain ⟨T, hT⟩ : ∃ T, T = q.num.tdiv D := ⟨_, rfl⟩
    obtain ⟨M, hM⟩ : ∃ M, M = q.num.tmod D := ⟨_, rfl⟩
    have hTM := tdiv_floor (n := q.num) HD0.out
    rw [← hT, ← hM] at hTM
    rw [HD.out] at hTM
    have hTM' : (M < 0 → T - 1 = Z) ∧ (¬ (M < 0) → T = Z) := by rw [HZ.out]; exact hTM
    have bT : B k T := by rw [hT]; exact tdiv_boundG _ hXn.2
    have bO : B k 1 := B_one (QB_pos hX.2)
    have cT : T.natAbs < pw k := bT
    have cO : (1 : Int).natAbs < pw k := bO
    have bZ : B (k + 1) Z := by
      by_cases hc : M < 0
      · rw [← hTM'.1 hc]; exact B_sub bT bO
      · rw [← hTM'.2 hc]; exact B_mono (by omega) bT
    rw [← hT] at h3
    rw [← hM] at h4
    have q40 := B4.c0
    have q41 := B4.c1
    have HTM := Lib.hid hTM'
    clear hTM hTM' hT hM hX hXn hXV hbn B0 B1 hx1
    go_wp2_with fail
    refine (Sign_any _ M _ h4).mono ?_
    rintro e w3 ⟨rfl, hx3⟩
    have B3 := B3.ext hx3
    have h3 := h3.ext hx3
    have BR := BR.ext hx3
    have hE3 := hE1.trans hx3
    obtain ⟨sr, hsr⟩ : ∃ s, s = M.sign := ⟨_, rfl⟩
    rw [← hsr]
    by_cases hc : M < 0
    · have e1 : decide (sr < 0) = true := by
        rw [hsr]; rcases sign_cases M with ⟨a, b⟩ | ⟨a, b⟩ | ⟨a, b⟩ <;> rw [b] <;> simp <;> omega
      have hr := HTM.out.1 (by omega)
      have HR := Lib.hid hr
      clear hc hr hsr
      have ks := KE.start (R := [w.heap.size + 1]) hE3 (by simp)
      have hbr : b ≠ w.heap.size + 1 := by have := HSZ.out; omega
      have kb : b ∉ [w.heap.size + 1] := by simpa using hbr
      have k30 : ∀ w', KE [w.heap.size + 1] w w3 w' → w'.cell? ⟨b, 0, none⟩ = some (.bool p) := fun w' h => (h.bx B3 kb).c0
      have k31 : ∀ w', KE [w.heap.size + 1] w w3 w' → w'.cell? ⟨b, 1, none⟩ = some (.slice A n m) := fun w' h => (h.bx B3 kb).c1
      go_upto_region 3 with fail
      go_region_held3 (fun w' => KE [w.heap.size + 1] w w3 w') ((repeat (first | assumption | apply KE.drew | apply KE.drewN | apply KE.alloc | (refine KE.set ?_ (by simp) _) | (refine KE.step ?_ (by assumption))))) (first
        | (go_at_call 37; (with_reducible refine (Of_any 1 _ (by decide) (by decide)).mono ?_); rintro e w4 ⟨v4, rfl, h5, hx4⟩; (obtain ⟨p5, A5, n5, c5, rfl⟩ := h5.shape))
        | (go_at_call 45; (with_reducible refine (Sub_any _ _ _ _ k _ (h3.ext (by repeat (first | (with_reducible exact Ext.refl _) | (with_reducible apply Ext.drew) | (with_reducible apply Ext.drewN) | (with_reducible refine Ext.trans ?_ (by assumption))))) h5 cT cO hL).mono ?_); rintro e w5 ⟨v5, rfl, h6, hx5⟩; (obtain ⟨p6, A6, n6, c6, rfl⟩ := h6.shape); (have b2 := Box.ext BR (show Ext w3 w5 by repeat (first | (with_reducible exact Ext.refl _) | (with_reducible apply Ext.drew) | (with_reducible apply Ext.drewN) | (with_reducible refine Ext.trans ?_ (by assumption))))); have q0 := b2.c0; have q1 := b2.c1; have f0 := b2.frozen 0; have f1 := b2.frozen 1)
        )
      all_goals (rw [HR.out] at h6)
      all_goals go_wp2_with fail
      all_goals (
        obtain ⟨p1, p2, p3⟩ := h6.put b2
        refine bodyPost_ret (v := .agg #[.bool p6, .slice A6 n6 c6]) (by simp [results, Tryz.results22, go_sem, p2, p3]) rfl ?_
        exact ⟨_, rfl, ⟨p1, bZ⟩, KE.ext (R := [w.heap.size + 1]) (W0 := w3) (by assumption)⟩)
    · have e1 : decide (sr < 0) = false := by
        rw [hsr]; rcases sign_cases M with ⟨a, b⟩ | ⟨a, b⟩ | ⟨a, b⟩ <;> rw [b] <;> simp <;> omega
      have hr := HTM.out.2 (by omega)
      rw [hr] at h3
      clear hc hr hsr
      have q30 := B3.c0
      have q31 := B3.c1
      have q0 := BR.c0
      have q1 := BR.c1
      have f0 := BR.frozen 0
      have f1 := BR.frozen 1
      go_wp2_with fail
      obtain ⟨p1, p2, p3⟩ := h3.put BR
      refine bodyPost_ret (v := .agg #[.bool p, .slice A n m]) (by simp [results, Tryz.results22, go_sem, p2, p3]) rfl ?_
      exact ⟨_, rfl, ⟨p1, bZ⟩, (hE3.set (by simp) _).set (by simp) _⟩
end Go.Proofs.YtginogcdjplhiaaGreatDoor.Rt

namespace Go.Proofs.YtginogcdjplhiaaGreatDoor.Rt
open Go.RowKit Go.Proofs.YtginogcdjplhiaaGreatDoor.Big
attribute [local go_sem] Go.World.cell?_alloc_some Go.RowKit.frozen?_alloc_cells

set_option maxHeartbeats 16000000 in
theorem RatCeil_b (x : Value) (q : Rat) (k : Nat) (w : World) (hx : RatB w x q k) (hL : k ≤ 1099511627776) : Calls Tryz.prog 28 #[x] w (BigBPost w (ceilZ q) (k + 1)) := by
  obtain ⟨p1, A1, n1, c1, p1', A1', n1', c1', rfl⟩ := hx.1.shape
  obtain ⟨Z, hZ⟩ : ∃ Z, Z = ceilZ q := ⟨_, rfl⟩
  rw [← hZ]
  have HZ := Lib.hid hZ
  clear hZ
  go_enter Tryz.func28, Tryz.ntmps28
  go_wp2_with fail
  obtain ⟨B0, B1, hE0⟩ := boxesT2 w 28 26 #[.bool p1, .slice A1 n1 c1, .bool p1', .slice A1' n1' c1'] #[.bool false, .slice none 0 0]
  have hX := hx.ext hE0
  have hXn := hX.numB
  have hsz : ((w.alloc (.cells #[.bool p1, .slice A1 n1 c1, .bool p1', .slice A1' n1' c1'] 28)).alloc (.cells #[.bool false, .slice none 0 0] 26)).heap.size = w.heap.size + 1 + 1 := by simp
  generalize ((w.alloc (.cells #[.bool p1, .slice A1 n1 c1, .bool p1', .slice A1' n1' c1'] 28)).alloc (.cells #[.bool false, .slice none 0 0] 26)) = W0 at *
  obtain ⟨D, hD⟩ : ∃ D : Int, D = (q.den : Int) := ⟨_, rfl⟩
  have hD0 : 0 < D := by have := q.den_pos; omega
  have HD := Lib.hid hD
  have HD0 := Lib.hid hD0
  have HSZ := Lib.hid hsz
  clear hx hD hD0 hsz
  have hbn : q.num.natAbs < pw k := hXn.2
  have hXV := hXn.1
  go_upto_region 1 with fail
  go_cut [3, 4, 5] (fun v u er wx => FC W0 (q.num.tdiv D) (q.num.tmod D) v u er wx)
  case first =>
    have k00 : ∀ w', Later W0 w' → w'.cell? ⟨_, 0, none⟩ = some _ := fun w' h => (B0.ext h).c0
    have k01 : ∀ w', Later W0 w' → w'.cell? ⟨_, 1, none⟩ = some _ := fun w' h => (B0.ext h).c1
    have k02 : ∀ w', Later W0 w' → w'.cell? ⟨_, 2, none⟩ = some _ := fun w' h => (B0.ext h).c2
    have k03 : ∀ w', Later W0 w' → w'.cell? ⟨_, 3, none⟩ = some _ := fun w' h => (B0.ext h).c3
    have hS0 := Later.refl W0
    clear B0 B1
    go_region_held3 (fun w' => Later W0 w') ((repeat (first | assumption | apply Later.drew | apply Later.drewN | apply Later.alloc | (refine Later.set ?_ (by first | exact Nat.le_refl _ | exact Nat.le_succ _ | exact Later.size (by assumption) | exact Nat.le_succ_of_le (Later.size (by assumption))) _) | (refine Later.step ?_ (by assumption))))) (first
      | (go_at_call 34; (with_reducible refine (RatDen_b _ _ _ _ (hX.ext (by repeat (first | (with_reducible exact Ext.refl _) | (with_reducible apply Ext.drew) | (with_reducible apply Ext.drewN) | (with_reducible apply Ext.alloc))))).mono ?_); rintro e w1 ⟨v1, rfl, hb1, hx1⟩; (obtain ⟨p2, A2, n2, c2, rfl⟩ := hb1.1.shape); (have hbv := hb1.1; rw [← HD.out] at hbv); (have hS1 := Later.step (by assumption) hx1); (try (have e1 := boxAd hx1; have e11 := e1.c0; have e12 := e1.c1; have e13 := e1.frozen 0; have e14 := e1.frozen 1)); (try (have e1 := boxB0d hx1; have e11 := e1.c0; have e12 := e1.c1; have e13 := e1.frozen 0; have e14 := e1.frozen 1)); (try (have e2 := boxB1d hx1; have e21 := e2.c0; have e22 := e2.c1; have e23 := e2.frozen 0; have e24 := e2.frozen 1)); (try (have e1 := boxA hx1; have e11 := e1.c0; have e12 := e1.c1; have e13 := e1.frozen 0; have e14 := e1.frozen 1)); (try (have e1 := boxB0 hx1; have e11 := e1.c0; have e12 := e1.c1; have e13 := e1.frozen 0; have e14 := e1.frozen 1)); (try (have e2 := boxB1 hx1; have e21 := e2.c0; have e22 := e2.c1; have e23 := e2.frozen 0; have e24 := e2.frozen 1)))
      | (go_at_call 44; (with_reducible refine (Div_any _ _ q.num D k _ (hXV.ext (by repeat (first | (with_reducible exact Ext.refl _) | (with_reducible apply Ext.drew) | (with_reducible apply Ext.drewN) | (with_reducible apply Ext.alloc) | (with_reducible refine Ext.trans ?_ (by assumption))))) (hbv.ext (by repeat (first | (with_reducible exact Ext.refl _) | (with_reducible apply Ext.drew) | (with_reducible apply Ext.drewN) | (with_reducible apply Ext.alloc)))) hbn (by omega) (by have := HD0.out; omega)).mono ?_); rintro e w2 ⟨v2, v3, rfl, hb2, hb3, hx2⟩; (obtain ⟨p3, A3, n3, c3, rfl⟩ := hb2.shape); (obtain ⟨p4, A4, n4, c4, rfl⟩ := hb3.shape); (have hS2 := Later.step (by assumption) hx2); (have z1 := Ext.size hx1); (have z2 := Ext.size hx2); (try simp at z1); (try simp at z2); (try (have m1 : ¬ W0.heap.size = w1.heap.size := by omega)); (try (have m2 : ¬ w1.heap.size = W0.heap.size := by omega)); (try (have m3 : ¬ W0.heap.size = w2.heap.size := by omega)); (try (have m4 : ¬ w2.heap.size = W0.heap.size := by omega)); (try (have m5 : ¬ w1.heap.size = w2.heap.size := by omega)); (try (have m6 : ¬ w2.heap.size = w1.heap.size := by omega));  (try (have f1 := boxA hx2; have f11 := f1.c0; have f12 := f1.c1; have f13 := f1.frozen 0; have f14 := f1.frozen 1)); (try (have f1 := boxB0 hx2; have f11 := f1.c0; have f12 := f1.c1; have f13 := f1.frozen 0; have f14 := f1.frozen 1)); (try (have f2 := boxB1 hx2; have f21 := f2.c0; have f22 := f2.c1; have f23 := f2.frozen 0; have f24 := f2.frozen 1)); (try (have g1 := Box.ext e1 hx2; have g11 := g1.c0; have g12 := g1.c1; have g13 := g1.frozen 0; have g14 := g1.frozen 1)); (try (have g1 := Box.ext (Box.alloc e1 _) hx2; have g11 := g1.c0; have g12 := g1.c1; have g13 := g1.frozen 0; have g14 := g1.frozen 1)); (try (have g2 := Box.ext e2 hx2; have g21 := g2.c0; have g22 := g2.c1; have g23 := g2.frozen 0; have g24 := g2.frozen 1)))
      )
    all_goals (go_wp2_with fail; go_meet)
    all_goals first
      | (with_reducible exact FC.way1 hb2 hb3 hS2)
      | (with_reducible exact FC.way2 hb2 hb3 hS2)
      | (with_reducible exact FC.way3 hb2 hb3 hS2 (by with_reducible assumption) (by with_reducible assumption) (by omega) (by first | exact Nat.le_refl _ | exact Nat.le_succ _ | exact Later.size hS1 | exact Nat.le_succ_of_le (Later.size hS1)) (by first | exact Nat.le_refl _ | exact Nat.le_succ _ | exact Later.size hS1 | exact Nat.le_succ_of_le (Later.size hS1)))
      | (with_reducible exact FC.way4 hb2 hb3 hS2 (by with_reducible assumption) (by first | exact Nat.le_refl _ | exact Nat.le_succ _ | exact Later.size hS1 | exact Nat.le_succ_of_le (Later.size hS1)))
      | (with_reducible exact FC.way5 hb2 hb3 hS2 (by with_reducible assumption) (by first | exact Nat.le_refl _ | exact Nat.le_succ _ | exact Later.size hS1 | exact Nat.le_succ_of_le (Later.size hS1)))
  case rest =>
    obtain ⟨b, c, n, m, n', m', p, p', A, A', rfl, rfl, rfl, B3, B4, h3, h4, hx1, hbb⟩ := hcut
    have BR := B1.ext hx1
    have hE1 := hE0.trans hx1
    obtain ⟨T, hT⟩ : ∃ T, T = q.num.tdiv D := ⟨_, rfl⟩
    obtain ⟨M, hM⟩ : ∃ M, M = q.num.tmod D := ⟨_, rfl⟩
    have hTM := tdiv_ceil (n := q.num) HD0.out
    rw [← hT, ← hM] at hTM
    rw [HD.out] at hTM
    have hTM' : (0 < M → T + 1 = Z) ∧ (¬ (0 < M) → T = Z) := by rw [HZ.out]; exact hTM
    have bT : B k T := by rw [hT]; exact tdiv_boundG _ hXn.2
    have bO : B k 1 := B_one (QB_pos hX.2)
    have cT : T.natAbs < pw k := bT
    have cO : (1 : Int).natAbs < pw k := bO
    have bZ : B (k + 1) Z := by
      by_cases hc : 0 < M
      · rw [← hTM'.1 hc]; exact B_add bT bO
      · rw [← hTM'.2 hc]; exact B_mono (by omega) bT
    rw [← hT] at h3
    rw [← hM] at h4
    have q40 := B4.c0
    have q41 := B4.c1
    have HTM := Lib.hid hTM'
    clear hTM hTM' hT hM hX hXn hXV hbn B0 B1 hx1
    go_wp2_with fail
    refine (Sign_any _ M _ h4).mono ?_
    rintro e w3 ⟨rfl, hx3⟩
    have B3 := B3.ext hx3
    have h3 := h3.ext hx3
    have BR := BR.ext hx3
    have hE3 := hE1.trans hx3
    obtain ⟨sr, hsr⟩ : ∃ s, s = M.sign := ⟨_, rfl⟩
    rw [← hsr]
    by_cases hc : 0 < M
    · have e1 : decide (0 < sr) = true := by
        rw [hsr]; rcases sign_cases M with ⟨a, b⟩ | ⟨a, b⟩ | ⟨a, b⟩ <;> rw [b] <;> simp <;> omega
      have hr := HTM.out.1 (by omega)
      have HR := Lib.hid hr
      clear hc hr hsr
      have ks := KE.start (R := [w.heap.size + 1]) hE3 (by simp)
      have hbr : b ≠ w.heap.size + 1 := by have := HSZ.out; omega
      have kb : b ∉ [w.heap.size + 1] := by simpa using hbr
      have k30 : ∀ w', KE [w.heap.size + 1] w w3 w' → w'.cell? ⟨b, 0, none⟩ = some (.bool p) := fun w' h => (h.bx B3 kb).c0
      have k31 : ∀ w', KE [w.heap.size + 1] w w3 w' → w'.cell? ⟨b, 1, none⟩ = some (.slice A n m) := fun w' h => (h.bx B3 kb).c1
      go_upto_region 3 with fail
      go_region_held3 (fun w' => KE [w.heap.size + 1] w w3 w') ((repeat (first | assumption | apply KE.drew | apply KE.drewN | apply KE.alloc | (refine KE.set ?_ (by simp) _) | (refine KE.step ?_ (by assumption))))) (first
        | (go_at_call 37; (with_reducible refine (Of_any 1 _ (by decide) (by decide)).mono ?_); rintro e w4 ⟨v4, rfl, h5, hx4⟩; (obtain ⟨p5, A5, n5, c5, rfl⟩ := h5.shape))
        | (go_at_call 40; (with_reducible refine (Add_any _ _ _ _ k _ (h3.ext (by repeat (first | (with_reducible exact Ext.refl _) | (with_reducible apply Ext.drew) | (with_reducible apply Ext.drewN) | (with_reducible refine Ext.trans ?_ (by assumption))))) h5 cT cO hL).mono ?_); rintro e w5 ⟨v5, rfl, h6, hx5⟩; (obtain ⟨p6, A6, n6, c6, rfl⟩ := h6.shape); (have b2 := Box.ext BR (show Ext w3 w5 by repeat (first | (with_reducible exact Ext.refl _) | (with_reducible apply Ext.drew) | (with_reducible apply Ext.drewN) | (with_reducible refine Ext.trans ?_ (by assumption))))); have q0 := b2.c0; have q1 := b2.c1; have f0 := b2.frozen 0; have f1 := b2.frozen 1)
        )
      all_goals (rw [HR.out] at h6)
      all_goals go_wp2_with fail
      all_goals (
        obtain ⟨p1, p2, p3⟩ := h6.put b2
        refine bodyPost_ret (v := .agg #[.bool p6, .slice A6 n6 c6]) (by simp [results, Tryz.results28, go_sem, p2, p3]) rfl ?_
        exact ⟨_, rfl, ⟨p1, bZ⟩, KE.ext (R := [w.heap.size + 1]) (W0 := w3) (by assumption)⟩)
    · have e1 : decide (0 < sr) = false := by
        rw [hsr]; rcases sign_cases M with ⟨a, b⟩ | ⟨a, b⟩ | ⟨a, b⟩ <;> rw [b] <;> simp <;> omega
      have hr := HTM.out.2 (by omega)
      rw [hr] at h3
      clear hc hr hsr
      have q30 := B3.c0
      have q31 := B3.c1
      have q0 := BR.c0
      have q1 := BR.c1
      have f0 := BR.frozen 0
      have f1 := BR.frozen 1
      go_wp2_with fail
      obtain ⟨p1, p2, p3⟩ := h3.put BR
      refine bodyPost_ret (v := .agg #[.bool p, .slice A n m]) (by simp [results, Tryz.results28, go_sem, p2, p3]) rfl ?_
      exact ⟨_, rfl, ⟨p1, bZ⟩, (hE3.set (by simp) _).set (by simp) _⟩
end Go.Proofs.YtginogcdjplhiaaGreatDoor.Rt
