/- The reference of the rational numbers: one, gcd walked. The reference of the rational numbers: Make walked. The reference of the rational numbers: Text walked. The reference of the rational numbers: Parse walked. -/
import Derived.Test.YtginogcdjplhiaaGreatDoorR8
import Derived.Test.YtginogcdjplhiaaGreatDoorT1
import Derived.Deep.LoopGhost
import Derived.Test.YtginogcdjplhiaaGreatDoorT5C
import Derived.Deep.DeepCutAuto
import Derived.Test.YtginogcdjplhiaaGreatDoorT6
set_option linter.unusedVariables false
set_option linter.unusedSimpArgs false
namespace Go.Proofs.YtginogcdjplhiaaGreatDoor.Ten
open Go.RowKit Go.Proofs.YtginogcdjplhiaaGreatDoor.Big Go.Proofs.YtginogcdjplhiaaGreatDoor.Rt

theorem dg_one : dg 1 0 = 1 := by decide
theorem ten_one (w : World) : Ten (w.alloc (.cells #[.int .i64 1] 3)) (.slice (some ⟨w.heap.size, 0, none⟩) 1 1) 1 1 :=
  ⟨_, 1, rfl, by omega, by omega, by decide, fun _ => ⟨w.heap.size, 0, _, _, rfl, heap_alloc_new w _, fun j hj => by
    obtain rfl : j = 0 := by omega
    rw [cell_of_row _ _ _ _ _ _ (heap_alloc_new w _), dg_one]; rfl⟩⟩

set_option maxHeartbeats 2000000 in
theorem one_any (w : World) : Calls Tryz.prog 30 #[] w (NPost w 1) := by
  go_enter Tryz.func30, Tryz.ntmps30
  go_wp2_with fail
  have B0 := (Box.new w 33 #[.int .i64 1, .slice (some ⟨w.heap.size + 1, 0, none⟩) 1 1]).alloc (.cells #[.int .i64 1] 3)
  have hT := ten_one (w.alloc (.cells #[.int .i64 1, .slice (some ⟨w.heap.size + 1, 0, none⟩) 1 1] 33))
  rw [show (w.alloc (.cells #[.int .i64 1, .slice (some ⟨w.heap.size + 1, 0, none⟩) 1 1] 33)).heap.size = w.heap.size + 1 by simp] at hT
  have p2 := B0.c0
  have p3 := B0.c1
  refine bodyPost_ret (v := .agg #[.int .i64 1, .slice (some ⟨w.heap.size + 1, 0, none⟩) 1 1]) (by simp [results, Tryz.results30, go_sem]) rfl ?_
  exact ⟨_, rfl, ⟨_, _, _, rfl, hT, .inr (by decide)⟩, ((Ext.refl w).alloc _).alloc _⟩

/-- two numbers stored into two boxes -/
theorem NumV.two_put {w : World} {b c : Nat} {s s0 s' s0' : Int} {A A0 A' A0' : Option Addr} {n k n0 k0 n' k' n0' k0' : Nat} {z z' : Int} (hne : b ≠ c)
    (h : NumV w (.agg #[.int .i64 s, .slice A n k]) z) (h' : NumV w (.agg #[.int .i64 s', .slice A' n' k']) z') (hb : Box w b 33 #[.int .i64 s0, .slice A0 n0 k0]) (hc : Box w c 33 #[.int .i64 s0', .slice A0' n0' k0']) :
    ∃ w', w' = ((((w.setCell ⟨b, 0, none⟩ (.int .i64 s)).setCell ⟨b, 1, none⟩ (.slice A n k)).setCell ⟨c, 0, none⟩ (.int .i64 s')).setCell ⟨c, 1, none⟩ (.slice A' n' k')) ∧
      NumV w' (.agg #[.int .i64 s, .slice A n k]) z ∧ NumV w' (.agg #[.int .i64 s', .slice A' n' k']) z' ∧ Box w' b 33 #[.int .i64 s, .slice A n k] ∧ Box w' c 33 #[.int .i64 s', .slice A' n' k'] := by
  refine ⟨_, rfl, ?_, ?_, ?_, ?_⟩
  all_goals (
    have hb2 := hb.put2 (.int .i64 s) (.slice A n k)
    have hc2 := (hc.far (p := ⟨b, 0, none⟩) (fun e => hne e.symm) (.int .i64 s)).far (p := ⟨b, 1, none⟩) (fun e => hne e.symm) (.slice A n k))
  · exact (((h.far hb numNe 0 _).far (hb.set 0 _) numNe 1 _).far hc2 numNe 0 _).far (hc2.set 0 _) numNe 1 _
  · exact (((h'.far hb numNe 0 _).far (hb.set 0 _) numNe 1 _).far hc2 numNe 0 _).far (hc2.set 0 _) numNe 1 _
  · exact (hb2.far (p := ⟨c, 0, none⟩) hne (.int .i64 s')).far (p := ⟨c, 1, none⟩) hne (.slice A' n' k')
  · exact hc2.put2 (.int .i64 s') (.slice A' n' k')
theorem NumV.sign_of {w : World} {s : Int} {A : Option Addr} {n c : Nat} {z : Int} (h : NumV w (.agg #[.int .i64 s, .slice A n c]) z) : s = z.sign := by
  obtain ⟨A', n', c', e, _⟩ := h
  simp only [Value.agg.injEq, Array.mk.injEq, List.cons.injEq, Value.int.injEq, Value.slice.injEq, and_true] at e
  exact e.1.2
theorem sign_bne {x : Int} : (x.sign != 0) = decide (x ≠ 0) := by
  rcases sign_cases x with ⟨a, b⟩ | ⟨a, b⟩ | ⟨a, b⟩ <;> rw [b] <;> simp <;> omega

set_option maxHeartbeats 4000000 in
theorem gcd_any (x y : Value) (X Y : Nat) (L : Nat) (w : World) (hx : NumV w x (X : Int)) (hy : NumV w y (Y : Int)) (bx : X < pt L) (bY : Y < pt L) (hL : L ≤ 100000000000) :
    Calls Tryz.prog 58 #[x, y] w (NPost w ((Nat.gcd X Y : Nat) : Int)) := by
  obtain ⟨s1, A1, n1, c1, rfl, -⟩ := hx.shape
  obtain ⟨s2, A2, n2, c2, rfl, -⟩ := hy.shape
  obtain ⟨G, hG⟩ : ∃ G, Nat.gcd X Y = G := ⟨_, rfl⟩
  rw [hG]
  have HG := Lib.hid hG
  clear hG
  go_enter Tryz.func58, Tryz.ntmps58
  go_wp2_with fail
  obtain ⟨B0, B1, B2, hE0⟩ := boxes3 w 33 #[.int .i64 s1, .slice A1 n1 c1] #[.int .i64 s2, .slice A2 n2 c2] #[.int .i64 0, .slice none 0 0]
  have hx := hx.ext hE0
  have hy := hy.ext hE0
  generalize (((w.alloc (.cells #[.int .i64 s1, .slice A1 n1 c1] 33)).alloc (.cells #[.int .i64 s2, .slice A2 n2 c2] 33)).alloc (.cells #[.int .i64 0, .slice none 0 0] 33)) = W0 at *
  go_loopg [] (Y) (fun g wr => ∃ (s s' : Int) (A A' : Option Addr) (n c n' c' a b : Nat), Box wr w.heap.size 33 #[.int .i64 s, .slice A n c] ∧ Box wr (w.heap.size + 1) 33 #[.int .i64 s', .slice A' n' c'] ∧ Box wr (w.heap.size + 1 + 1) 33 #[.int .i64 0, .slice none 0 0] ∧ NumV wr (.agg #[.int .i64 s, .slice A n c]) (a : Int) ∧ NumV wr (.agg #[.int .i64 s', .slice A' n' c']) (b : Int) ∧ Hid (Nat.gcd a b = G) ∧ a < pt L ∧ b < pt L ∧ b ≤ g ∧ Ext w wr)
  case atStart => exact ⟨_, _, _, _, _, _, _, _, X, Y, B0, B1, B2, hx, hy, HG, bx, bY, Nat.le_refl _, hE0⟩
  case round =>
    obtain ⟨s, s', A, A', n, c, n', c', a, b, D0, D1, D2, ha, hb, HGab, la, lb, hbg, hE⟩ := hrel
    have hs' := hb.sign_of
    have q0 := D1.c0
    have q1 := D1.c1
    by_cases h0 : b = 0
    · have e1 : (s' != 0) = false := by rw [hs', sign_bne, h0]; rfl
      have haG : a = G := by have := HGab.out; rw [h0, Nat.gcd_zero_right] at this; exact this
      rw [haG] at ha
      clear haG h0 hs'
      have r0 := D0.c0
      have r1 := D0.c1
      have t0 := D2.c0
      have t1 := D2.c1
      have f0 := D2.frozen 0
      have f1 := D2.frozen 1
      go_wp2_with fail
      obtain ⟨p1, p2, p3⟩ := ha.put D2
      refine bodyPost_ret (v := .agg #[.int .i64 s, .slice A n c]) (by simp [results, Tryz.results58, go_sem, p2, p3]) rfl ?_
      exact ⟨_, rfl, p1, (hE.set (by simp; omega) _).set (by simp; omega) _⟩
    · have e1 : (s' != 0) = true := by rw [hs', sign_bne]; simp; omega
      have HB0 := Lib.hid h0
      clear h0 hs'
      have r0 := D0.c0
      have r1 := D0.c1
      go_wp2_with fail
      refine (Div_any _ _ (a : Int) (b : Int) L _ ha hb (by simpa using la) (by simpa using lb) hL (by have := HB0.out; omega)).mono ?_
      rintro e w3 ⟨v3, v4, rfl, h3, h4, hx3⟩
      rw [show (a : Int).tmod (b : Int) = ((a % b : Nat) : Int) from (Int.ofNat_tmod a b).symm] at h4
      obtain ⟨s3, A3, n3, c3, rfl, -⟩ := h3.shape
      obtain ⟨s4, A4, n4, c4, rfl, -⟩ := h4.shape
      clear h3
      go_upto_region 3 with fail
      obtain ⟨B5, B6, hx4⟩ := boxes2 w3 33 #[.int .i64 s3, .slice A3 n3 c3] #[.int .i64 s4, .slice A4 n4 c4]
      have hx34 := hx3.trans hx4
      have hlt := (D2.ext hx3).lt
      have m1 : ¬ w.heap.size = w3.heap.size + 1 := by omega
      have m2 : ¬ w3.heap.size + 1 = w.heap.size := by omega
      have m3 : ¬ w.heap.size = w3.heap.size := by omega
      have m4 : ¬ w3.heap.size = w.heap.size := by omega
      have D0 := D0.ext hx34
      have D1 := D1.ext hx34
      have D2 := D2.ext hx34
      have hb := hb.ext hx34
      have h4 := h4.ext hx4
      have hE := hE.trans hx34
      generalize ((w3.alloc (.cells #[.int .i64 s3, .slice A3 n3 c3] 33)).alloc (.cells #[.int .i64 s4, .slice A4 n4 c4] 33)) = W4 at *
      clear hx3 hx4 hx34 q0 q1 r0 r1 B5 ha
      have HM := Lib.hid (show a % b < b from Nat.mod_lt _ (by have := HB0.out; omega))
      have q0 := D1.c0
      have q1 := D1.c1
      have f0 := D1.frozen 0
      have f1 := D1.frozen 1
      have r0 := D0.c0
      have r1 := D0.c1
      have g0 := D0.frozen 0
      have g1 := D0.frozen 1
      have t0 := B6.c0
      have t1 := B6.c1
      obtain ⟨w', hw', z1, z2, z3, z4⟩ := NumV.two_put (by omega) hb h4 D0 D1
      have z5 := (((D2.far (p := ⟨w.heap.size, 0, none⟩) (by simp; omega) (.int .i64 s')).far (p := ⟨w.heap.size, 1, none⟩) (by simp; omega) (.slice A' n' c')).far (p := ⟨w.heap.size + 1, 0, none⟩) (by simp) (.int .i64 s4)).far (p := ⟨w.heap.size + 1, 1, none⟩) (by simp) (.slice A4 n4 c4)
      have z6 := (((hE.set (p := ⟨w.heap.size, 0, none⟩) (Nat.le_refl _) (.int .i64 s')).set (p := ⟨w.heap.size, 1, none⟩) (Nat.le_refl _) (.slice A' n' c')).set (p := ⟨w.heap.size + 1, 0, none⟩) (by simp) (.int .i64 s4)).set (p := ⟨w.heap.size + 1, 1, none⟩) (by simp) (.slice A4 n4 c4)
      rw [← hw'] at z5 z6
      have HW := Lib.hid hw'
      clear hw'
      go_region
      all_goals (go_wp2_with fail)
      all_goals (rw [← HW.out])
      all_goals (go_roundg (a % b))
      all_goals first
        | exact Nat.lt_of_lt_of_le HM.out hbg
        | exact ⟨s', s4, A', A4, n', c', n4, c4, b, a % b, z3.drew, z4.drew, z5.drew, z1.ext (Ext.refl _).drew, z2.ext (Ext.refl _).drew, Lib.hid (by rw [← HGab.out, Nat.gcd_comm a b, Nat.gcd_rec b a, Nat.gcd_comm]), lb, Nat.lt_trans HM.out lb, Nat.le_refl _, z6.drew⟩
end Go.Proofs.YtginogcdjplhiaaGreatDoor.Ten

namespace Go.Proofs.YtginogcdjplhiaaGreatDoor.Ten
open Go.RowKit Go.Proofs.YtginogcdjplhiaaGreatDoor.Big Go.Proofs.YtginogcdjplhiaaGreatDoor.Rt

theorem fracNe : (35 : Nat) ≠ 3 := by decide
theorem NumV.far4 {w : World} {b : Nat} {E : TypeId} {cs : Array Value} {v : Value} {z : Int} (h : NumV w v z) (hb : Box w b E cs) (hE : E ≠ 3) (x y u t : Value) :
    NumV ((((w.setCell ⟨b, 0, none⟩ x).setCell ⟨b, 1, none⟩ y).setCell ⟨b, 2, none⟩ u).setCell ⟨b, 3, none⟩ t) v z :=
  (((h.far hb hE 0 x).far (hb.set 0 x) hE 1 y).far ((hb.set 0 x).set 1 y) hE 2 u).far (((hb.set 0 x).set 1 y).set 2 u) hE 3 t
theorem NumV.s2 {w : World} {c : Nat} {cs : Array Value} {v : Value} {z : Int} (h : NumV w v z) (hb : Box w c 33 cs) (x y : Value) : NumV ((w.setCell ⟨c, 0, none⟩ x).setCell ⟨c, 1, none⟩ y) v z :=
  (h.far hb numNe 0 x).far (hb.set 0 x) numNe 1 y
/-- the struct value v is the fraction n / d -/
def FracV (w : World) (v : Value) (q : Rat) : Prop := ∃ s A n c s' A' n' c', v = .agg #[.int .i64 s, .slice A n c, .int .i64 s', .slice A' n' c'] ∧ NumV w (.agg #[.int .i64 s, .slice A n c]) q.num ∧ NumV w (.agg #[.int .i64 s', .slice A' n' c']) (q.den : Int)
theorem FracV.ext {w w' : World} {v : Value} {q : Rat} (h : FracV w v q) (k : Ext w w') : FracV w' v q := by
  obtain ⟨s, A, n, c, s', A', n', c', rfl, h1, h2⟩ := h
  exact ⟨s, A, n, c, s', A', n', c', rfl, h1.ext k, h2.ext k⟩
def FPost (w : World) (q : Rat) (e : Ending) (w' : World) : Prop := ∃ v, e = .returned v ∧ FracV w' v q ∧ Ext w w'
theorem FracV.put {w : World} {b : Nat} {s s' : Int} {A A' : Option Addr} {n c n' c' : Nat} {q : Rat} {x y u t : Value} (h1 : NumV w (.agg #[.int .i64 s, .slice A n c]) q.num) (h2 : NumV w (.agg #[.int .i64 s', .slice A' n' c']) (q.den : Int)) (hb : Box w b 35 #[x, y, u, t]) :
    FracV ((((w.setCell ⟨b, 0, none⟩ (.int .i64 s)).setCell ⟨b, 1, none⟩ (.slice A n c)).setCell ⟨b, 2, none⟩ (.int .i64 s')).setCell ⟨b, 3, none⟩ (.slice A' n' c')) (.agg #[.int .i64 s, .slice A n c, .int .i64 s', .slice A' n' c']) q ∧
    Box ((((w.setCell ⟨b, 0, none⟩ (.int .i64 s)).setCell ⟨b, 1, none⟩ (.slice A n c)).setCell ⟨b, 2, none⟩ (.int .i64 s')).setCell ⟨b, 3, none⟩ (.slice A' n' c')) b 35 #[.int .i64 s, .slice A n c, .int .i64 s', .slice A' n' c'] :=
  ⟨⟨_, _, _, _, _, _, _, _, rfl, h1.far4 hb fracNe _ _ _ _, h2.far4 hb fracNe _ _ _ _⟩, hb.set4 _ _ _ _⟩
theorem drew_of {w w' : World} (h : Ext w.drew w') : Ext w w' := (Ext.refl w).drew.trans h
theorem sign_blt {x : Int} : decide (x.sign < 0) = decide (x < 0) := by
  rcases sign_cases x with ⟨a, b⟩ | ⟨a, b⟩ | ⟨a, b⟩ <;> rw [b] <;> simp <;> omega

set_option maxRecDepth 100000 in
set_option maxHeartbeats 8000000 in
theorem FMake_any (x y : Value) (n d : Int) (L : Nat) (w : World) (hx : NumV w x n) (hy : NumV w y d) (bx : BT L n) (bY : BT L d) (hL : L ≤ 100000000000) (hd : d ≠ 0) :
    Calls Tryz.prog 31 #[x, y] w (FPost w (Rat.divInt n d)) := by
  obtain ⟨s1, A1, n1, c1, rfl, hs1⟩ := hx.shape
  obtain ⟨s2, A2, n2, c2, rfl, hs2⟩ := hy.shape
  obtain ⟨q, hq⟩ : ∃ q, q = Rat.divInt n d := ⟨_, rfl⟩
  rw [← hq]
  have HQ := Lib.hid hq
  have HD := Lib.hid hd
  have HS1 := Lib.hid hs1
  have HS2 := Lib.hid hs2
  clear hq hd hs1 hs2
  obtain ⟨B0, B1, B2, hE0⟩ := boxesT3 w 33 33 35 #[.int .i64 s1, .slice A1 n1 c1] #[.int .i64 s2, .slice A2 n2 c2] #[.int .i64 0, .slice none 0 0, .int .i64 0, .slice none 0 0]
  have hx := hx.ext hE0
  have hy := hy.ext hE0
  by_cases hn : n = 0
  · have e1 : (s1 == 0) = true := by rw [HS1.out, hn]; rfl
    have hq0 : q = 0 := by rw [HQ.out, hn, Rat.zero_divInt]
    rw [hn] at hx
    clear hn
    go_enter Tryz.func31, Tryz.ntmps31
    go_upto_region 2 with fail
    generalize (((w.alloc (.cells #[.int .i64 s1, .slice A1 n1 c1] 33)).alloc (.cells #[.int .i64 s2, .slice A2 n2 c2] 33)).alloc (.cells #[.int .i64 0, .slice none 0 0, .int .i64 0, .slice none 0 0] 35)) = W0 at *
    have HQ0 := Lib.hid hq0
    clear hq0
    have ks := KE.start (R := [w.heap.size + 1 + 1]) hE0 (by simp; omega)
    have kb0 : w.heap.size ∉ [w.heap.size + 1 + 1] := by simp; omega
    have k00 : ∀ w', KE [w.heap.size + 1 + 1] w W0 w' → w'.cell? ⟨w.heap.size, 0, none⟩ = some (.int .i64 s1) := fun w' h => (h.bx B0 kb0).c0
    have k01 : ∀ w', KE [w.heap.size + 1 + 1] w W0 w' → w'.cell? ⟨w.heap.size, 1, none⟩ = some (.slice A1 n1 c1) := fun w' h => (h.bx B0 kb0).c1
    go_region_held3 (fun w' => KE [w.heap.size + 1 + 1] w W0 w') ((repeat (first | assumption | apply KE.drew | apply KE.drewN | apply KE.alloc | (refine KE.set ?_ (by simp) _) | (refine KE.step ?_ (by assumption))))) (first
      | (go_at_call 30; (with_reducible refine (one_any _).mono ?_); rintro e w1 ⟨v1, rfl, h1, hx1⟩; (obtain ⟨s3, A3, n3, c3, rfl, -⟩ := h1.shape); (have b2 := B2.drew.ext hx1); have q0 := b2.c0; have q1 := b2.c1; have q2 := b2.c2; have q3 := b2.c3; have f0 := b2.frozen 0; have f1 := b2.frozen 1; have f2 := b2.frozen 2; have f3 := b2.frozen 3)
      )
    all_goals go_wp2_with fail
    all_goals (
      obtain ⟨pp, pb⟩ := FracV.put (show NumV w1 _ q.num by rw [HQ0.out]; exact hx.ext (drew_of hx1)) (show NumV w1 _ (q.den : Int) by rw [HQ0.out]; exact h1) b2
      have pc0 := pb.c0
      have pc1 := pb.c1
      have pc2 := pb.c2
      have pc3 := pb.c3
      refine bodyPost_ret (v := .agg #[.int .i64 s1, .slice A1 n1 c1, .int .i64 s3, .slice A3 n3 c3]) (by simp [results, Tryz.results31, go_sem, pc0, pc1, pc2, pc3]) rfl ?_
      exact ⟨_, rfl, pp, KE.ext (R := [w.heap.size + 1 + 1]) (W0 := W0) (by assumption)⟩)
  · have e1 : (s1 == 0) = false := by rw [HS1.out]; exact sign_ne hn
    have HN := Lib.hid hn
    obtain ⟨sb, hsb⟩ : ∃ b, b = decide (d < 0) := ⟨_, rfl⟩
    have e2 : decide (s2 < 0) = sb := by rw [HS2.out, sign_blt, hsb]
    have HSB := Lib.hid hsb
    clear hn hsb
    go_enter Tryz.func31, Tryz.ntmps31
    go_upto_if 15 with fail
    generalize (((w.alloc (.cells #[.int .i64 s1, .slice A1 n1 c1] 33)).alloc (.cells #[.int .i64 s2, .slice A2 n2 c2] 33)).alloc (.cells #[.int .i64 0, .slice none 0 0, .int .i64 0, .slice none 0 0] 35)) = W0 at *
    go_cut [] (fun wx => ∃ (n' d' : Int) (s s' : Int) (A1 A2 : Option Addr) (n1 c1 n2 c2 : Nat), Box wx w.heap.size 33 #[.int .i64 s, .slice A1 n1 c1] ∧ Box wx (w.heap.size + 1) 33 #[.int .i64 s', .slice A2 n2 c2] ∧
      Box wx (w.heap.size + 1 + 1) 35 #[.int .i64 0, .slice none 0 0, .int .i64 0, .slice none 0 0] ∧ NumV wx (.agg #[.int .i64 s, .slice A1 n1 c1]) n' ∧ NumV wx (.agg #[.int .i64 s', .slice A2 n2 c2]) d' ∧ BT L n' ∧ BT L d' ∧ Hid (0 < d' ∧ n' ≠ 0 ∧ q = Rat.divInt n' d') ∧ Ext w wx)
    case first =>
      cases sb
      · have hneg : ¬ d < 0 := by have := HSB.out; simpa using this
        have HC : Hid (0 < d ∧ n ≠ 0 ∧ q = Rat.divInt n d) := Lib.hid ⟨by have := HD.out; omega, HN.out, HQ.out⟩
        clear hneg
        go_wp2_with fail
        go_meet
        exact ⟨_, _, _, _, _, _, _, _, _, _, B0, B1, B2, hx, hy, bx, bY, HC, hE0⟩
      · have hneg : d < 0 := by have := HSB.out; simpa using this
        have HC : Hid (0 < -d ∧ -n ≠ 0 ∧ q = Rat.divInt (-n) (-d)) := Lib.hid ⟨by omega, by have := HN.out; omega, by rw [HQ.out, Rat.neg_divInt_neg]⟩
        clear hneg
        have q00 := B0.c0
        have q01 := B0.c1
        have q10 := B1.c0
        have q11 := B1.c1
        go_upto_region 4 with fail
        go_region_with (first
          | (go_at_call 42; (with_reducible refine (Neg_any _ n _ (hx.ext (by repeat (first | (with_reducible exact Ext.refl _) | (with_reducible apply Ext.drew) | (with_reducible apply Ext.drewN))))).mono ?_); rintro e w3 ⟨v3, rfl, hb3, hx3⟩; (obtain ⟨s3, A3, n3, c3, rfl, -⟩ := hb3.shape); (have E0 := B0.drew.ext hx3); (have E1 := B1.drew.ext hx3); (have g0 := E0.c0; have g1 := E0.c1; have g2 := E1.c0; have g3 := E1.c1; have g4 := E0.frozen 0; have g5 := E0.frozen 1; have g6 := E1.frozen 0; have g7 := E1.frozen 1))
          | (go_at_call 42; (with_reducible refine (Neg_any _ d _ (hy.ext (by repeat (first | (with_reducible exact Ext.refl _) | (with_reducible apply Ext.drew) | (with_reducible apply Ext.drewN) | (with_reducible refine Ext.trans ?_ (by assumption)))))).mono ?_); rintro e w4 ⟨v4, rfl, hb4, hx4⟩; (obtain ⟨s4, A4, n4, c4, rfl, -⟩ := hb4.shape); (have E0 := E0.ext hx4); (have E1 := E1.ext hx4); (have h0 := E0.c0; have h1 := E0.c1; have h2 := E1.c0; have h3 := E1.c1; have h4 := E0.frozen 0; have h5 := E0.frozen 1; have h6 := E1.frozen 0; have h7 := E1.frozen 1)))
        all_goals (go_wp2_with fail; go_meet)
        all_goals (obtain ⟨wz, hwz, z1, z2, z3, z4⟩ := NumV.two_put (by omega) (hb3.ext hx4) hb4 E0 E1)
        all_goals (have z5 := (((((B2.drew.ext hx3).ext hx4).far (p := ⟨w.heap.size, 0, none⟩) (by simp; omega) (.int .i64 s3)).far (p := ⟨w.heap.size, 1, none⟩) (by simp; omega) (.slice A3 n3 c3)).far (p := ⟨w.heap.size + 1, 0, none⟩) (by simp) (.int .i64 s4)).far (p := ⟨w.heap.size + 1, 1, none⟩) (by simp) (.slice A4 n4 c4))
        all_goals (have z6 := (((((hE0.drew.trans hx3).trans hx4).set (p := ⟨w.heap.size, 0, none⟩) (Nat.le_refl _) (.int .i64 s3)).set (p := ⟨w.heap.size, 1, none⟩) (Nat.le_refl _) (.slice A3 n3 c3)).set (p := ⟨w.heap.size + 1, 0, none⟩) (by simp) (.int .i64 s4)).set (p := ⟨w.heap.size + 1, 1, none⟩) (by simp) (.slice A4 n4 c4))
        all_goals (rw [← hwz] at z5 z6 ⊢; exact ⟨_, _, _, _, _, _, _, _, _, _, z3, z4, z5, z1, z2, BT_neg bx, BT_neg bY, HC, z6⟩)
    case rest =>
      clear B0 B1 B2 hx hy HSB e2 e1 HS1 HS2
      obtain ⟨m, k, s, s', A1, A2, n1, c1, n2, c2, B0, B1, B2, hm, hk, bm, bk, HC, hE⟩ := hcut
      have hsm := hm.sign_of
      obtain ⟨K, hK⟩ : ∃ K : Nat, k = (K : Int) := ⟨k.toNat, by have := HC.out.1; omega⟩
      subst hK
      obtain ⟨sb, hsb⟩ : ∃ b, b = decide (m < 0) := ⟨_, rfl⟩
      have e2 : decide (s < 0) = sb := by rw [hsm, sign_blt, hsb]
      have HSB := Lib.hid hsb
      have HSM := Lib.hid hsm
      clear hsb hsm
      have q00 := B0.c0
      have q01 := B0.c1
      go_upto_if 23 with fail
      have hxa : Ext wc (wc.alloc (.cells #[.int .i64 s, .slice A1 n1 c1] 33)) := (Ext.refl wc).alloc _
      have B5 := Box.new wc 33 #[.int .i64 s, .slice A1 n1 c1]
      have hlt := B2.lt
      have m1 : ¬ w.heap.size = wc.heap.size := by omega
      have m2 : ¬ wc.heap.size = w.heap.size := by omega
      have m3 : ¬ w.heap.size + 1 = wc.heap.size := by omega
      have m4 : ¬ wc.heap.size = w.heap.size + 1 := by omega
      have B0 := B0.ext hxa
      have B1 := B1.ext hxa
      have B2 := B2.ext hxa
      have hm := hm.ext hxa
      have hk := hk.ext hxa
      have hE := hE.trans hxa
      generalize (wc.alloc (.cells #[.int .i64 s, .slice A1 n1 c1] 33)) = W1 at *
      clear hxa q00 q01
      generalize wc.heap.size = b5 at *
      go_cut [] (fun wx => ∃ (sa : Int) (Aa : Option Addr) (na ca : Nat), Box wx b5 33 #[.int .i64 sa, .slice Aa na ca] ∧ NumV wx (.agg #[.int .i64 sa, .slice Aa na ca]) ((m.natAbs : Nat) : Int) ∧ Box wx w.heap.size 33 #[.int .i64 s, .slice A1 n1 c1] ∧ Box wx (w.heap.size + 1) 33 #[.int .i64 s', .slice A2 n2 c2] ∧
        Box wx (w.heap.size + 1 + 1) 35 #[.int .i64 0, .slice none 0 0, .int .i64 0, .slice none 0 0] ∧ NumV wx (.agg #[.int .i64 s, .slice A1 n1 c1]) m ∧ NumV wx (.agg #[.int .i64 s', .slice A2 n2 c2]) (K : Int) ∧ Ext w wx)
      case first =>
        cases sb
        · have hneg : ¬ m < 0 := by have := HSB.out; simpa using this
          have hma : ((m.natAbs : Nat) : Int) = m := by omega
          have HMA := Lib.hid hma
          clear hneg hma
          go_wp2_with fail
          go_meet
          exact ⟨_, _, _, _, B5, by rw [HMA.out]; exact hm, B0, B1, B2, hm, hk, hE⟩
        · have hneg : m < 0 := by have := HSB.out; simpa using this
          have hma : -m = ((m.natAbs : Nat) : Int) := by omega
          have HMA := Lib.hid hma
          clear hneg hma
          have q0 := B5.c0
          have q1 := B5.c1
          go_wp2_with fail
          refine (Neg_any _ m _ hm).mono ?_
          rintro e w3 ⟨v3, rfl, h3, hx3⟩
          obtain ⟨s3, A3, n3, c3, rfl, -⟩ := h3.shape
          have D5 := B5.ext hx3
          have r0 := D5.c0
          have r1 := D5.c1
          have f0 := D5.frozen 0
          have f1 := D5.frozen 1
          go_wp2_with fail
          go_meet
          exact ⟨_, _, _, _, D5.put2 _ _, by rw [← HMA.out]; exact h3.s2 D5 _ _, Box.f2 (B0.ext hx3) (by omega) _ _, Box.f2 (B1.ext hx3) (by omega) _ _, Box.f2 (B2.ext hx3) (by omega) _ _, (hm.ext hx3).s2 D5 _ _, (hk.ext hx3).s2 D5 _ _, ((hE.trans hx3).set (by show w.heap.size ≤ b5; omega) _).set (by show w.heap.size ≤ b5; omega) _⟩
      case rest =>
        clear B0 B1 B2 B5 hm hk hE e2
        obtain ⟨sa, Aa, na, ca, B5, ha, B0, B1, B2, hm, hk, hE⟩ := hcut
        have q0 := B5.c0
        have q1 := B5.c1
        have r0 := B1.c0
        have r1 := B1.c1
        go_wp2_with fail
        refine (gcd_any _ _ m.natAbs K L _ ha hk bm (by simpa [BT] using bk) hL).mono ?_
        rintro e w3 ⟨v3, rfl, hg, hx3⟩
        obtain ⟨s3, A3, n3, c3, rfl, -⟩ := hg.shape
        obtain ⟨G, hG⟩ : ∃ G : Int, G = ((Nat.gcd m.natAbs K : Nat) : Int) := ⟨_, rfl⟩
        have hG0 : G ≠ 0 := by
          have := Nat.gcd_pos_of_pos_left K (show 0 < m.natAbs by have := HC.out.2.1; omega); omega
        rw [← hG] at hg
        have bG : G.natAbs < pt L := by
          rw [hG, Int.natAbs_natCast]
          exact Nat.lt_of_le_of_lt (Nat.gcd_le_left _ (by have := HC.out.2.1; omega)) bm
        have HG := Lib.hid hG
        have HG0 := Lib.hid hG0
        clear hG hG0
        go_upto_region 9 with fail
        have hx4 : Ext w3 (w3.alloc (.cells #[.int .i64 s3, .slice A3 n3 c3] 33)) := (Ext.refl w3).alloc _
        have B6 := Box.new w3 33 #[.int .i64 s3, .slice A3 n3 c3]
        have hx34 := hx3.trans hx4
        have hlt := (B2.ext hx3).lt
        have y1 : ¬ w3.heap.size = w.heap.size := by omega
        have y2 : ¬ w.heap.size = w3.heap.size := by omega
        have y3 : ¬ w3.heap.size = w.heap.size + 1 := by omega
        have y4 : ¬ w.heap.size + 1 = w3.heap.size := by omega
        have B0 := B0.ext hx34
        have B1 := B1.ext hx34
        have B2 := B2.ext hx34
        have hm := hm.ext hx34
        have hk := hk.ext hx34
        have hg := hg.ext hx4
        have hE := hE.trans hx34
        generalize (w3.alloc (.cells #[.int .i64 s3, .slice A3 n3 c3] 33)) = W4 at *
        clear hx3 hx4 hx34 B5 ha q0 q1 r0 r1
        generalize w3.heap.size = b6 at *
        have q0 := B0.c0
        have q1 := B0.c1
        have r0 := B6.c0
        have r1 := B6.c1
        go_wp2_with fail
        refine (Div_any _ _ m G L _ hm hg bm bG hL HG0.out).mono ?_
        rintro e w5 ⟨v5, v6, rfl, h5, h6, hx5⟩
        obtain ⟨s5, A5, n5, c5, rfl, -⟩ := h5.shape
        obtain ⟨s6, A6, n6, c6, rfl, -⟩ := h6.shape
        clear h6
        have D0 := B0.ext hx5
        have u0 := D0.c0
        have u1 := D0.c1
        have f0 := D0.frozen 0
        have f1 := D0.frozen 1
        go_upto_region 10 with fail
        have hk := (hk.ext hx5).s2 D0 (.int .i64 s5) (.slice A5 n5 c5)
        have hg := (hg.ext hx5).s2 D0 (.int .i64 s5) (.slice A5 n5 c5)
        have h5 := h5.s2 D0 (.int .i64 s5) (.slice A5 n5 c5)
        have B1 := Box.f2 (B1.ext hx5) (show w.heap.size + 1 ≠ w.heap.size by omega) (.int .i64 s5) (.slice A5 n5 c5)
        have B2 := Box.f2 (B2.ext hx5) (show w.heap.size + 1 + 1 ≠ w.heap.size by omega) (.int .i64 s5) (.slice A5 n5 c5)
        have B6 := Box.f2 (B6.ext hx5) (show b6 ≠ w.heap.size by omega) (.int .i64 s5) (.slice A5 n5 c5)
        have hE := ((hE.trans hx5).set (p := ⟨w.heap.size, 0, none⟩) (Nat.le_refl _) (.int .i64 s5)).set (p := ⟨w.heap.size, 1, none⟩) (Nat.le_refl _) (.slice A5 n5 c5)
        have B0 := D0.put2 (.int .i64 s5) (.slice A5 n5 c5)
        generalize ((w5.setCell ⟨w.heap.size, 0, none⟩ (.int .i64 s5)).setCell ⟨w.heap.size, 1, none⟩ (.slice A5 n5 c5)) = W6 at *
        clear D0 u0 u1 f0 f1 q0 q1 r0 r1 hx5 hm
        have q0 := B1.c0
        have q1 := B1.c1
        have r0 := B6.c0
        have r1 := B6.c1
        go_wp2_with fail
        refine (Div_any _ _ (K : Int) G L _ hk hg bk bG hL HG0.out).mono ?_
        rintro e w7 ⟨v7, v8, rfl, h7, h8, hx7⟩
        obtain ⟨s7, A7, n7, c7, rfl, -⟩ := h7.shape
        obtain ⟨s8, A8, n8, c8, rfl, -⟩ := h8.shape
        clear h8
        have D1 := B1.ext hx7
        have u0 := D1.c0
        have u1 := D1.c1
        have f0 := D1.frozen 0
        have f1 := D1.frozen 1
        go_upto_region 11 with fail
        have h5 := (h5.ext hx7).s2 D1 (.int .i64 s7) (.slice A7 n7 c7)
        have h7 := h7.s2 D1 (.int .i64 s7) (.slice A7 n7 c7)
        have B0 := Box.f2 (B0.ext hx7) (show w.heap.size ≠ w.heap.size + 1 by omega) (.int .i64 s7) (.slice A7 n7 c7)
        have B2 := Box.f2 (B2.ext hx7) (show w.heap.size + 1 + 1 ≠ w.heap.size + 1 by omega) (.int .i64 s7) (.slice A7 n7 c7)
        have hE := ((hE.trans hx7).set (p := ⟨w.heap.size + 1, 0, none⟩) (by simp) (.int .i64 s7)).set (p := ⟨w.heap.size + 1, 1, none⟩) (by simp) (.slice A7 n7 c7)
        have B1 := D1.put2 (.int .i64 s7) (.slice A7 n7 c7)
        generalize ((w7.setCell ⟨w.heap.size + 1, 0, none⟩ (.int .i64 s7)).setCell ⟨w.heap.size + 1, 1, none⟩ (.slice A7 n7 c7)) = W8 at *
        clear D1 u0 u1 f0 f1 q0 q1 r0 r1 hx7 hk hg B6
        have q0 := B0.c0
        have q1 := B0.c1
        have r0 := B1.c0
        have r1 := B1.c1
        have t0 := B2.c0
        have t1 := B2.c1
        have t2 := B2.c2
        have t3 := B2.c3
        have f0 := B2.frozen 0
        have f1 := B2.frozen 1
        have f2 := B2.frozen 2
        have f3 := B2.frozen 3
        obtain ⟨r1', r2'⟩ := red_pos (n := m) HC.out.1
        rw [← HC.out.2.2, Int.natAbs_natCast, ← HG.out] at r1' r2'
        rw [← r1'] at h5
        rw [← r2'] at h7
        clear r1' r2'
        go_wp2_with fail
        obtain ⟨pp, pb⟩ := FracV.put h5 h7 B2
        have pc0 := pb.c0
        have pc1 := pb.c1
        have pc2 := pb.c2
        have pc3 := pb.c3
        refine bodyPost_ret (v := .agg #[.int .i64 s5, .slice A5 n5 c5, .int .i64 s7, .slice A7 n7 c7]) (by simp [results, Tryz.results31, go_sem, pc0, pc1, pc2, pc3]) rfl ?_
        exact ⟨_, rfl, pp, (((hE.set (by simp; omega) _).set (by simp; omega) _).set (by simp; omega) _).set (by simp; omega) _⟩
end Go.Proofs.YtginogcdjplhiaaGreatDoor.Ten

namespace Go.Proofs.YtginogcdjplhiaaGreatDoor.Ten
open Go.RowKit Go.Proofs.YtginogcdjplhiaaGreatDoor.Big Go.Proofs.YtginogcdjplhiaaGreatDoor.Rt
open Go.Lib (itoa)

theorem itoa_lenT {z : Int} {L : Nat} (hL : 0 < L) (b : BT L z) : (itoa z).length ≤ L + 1 := by
  unfold BT at b
  rw [pt_ten] at b
  rcases Int.lt_or_le z 0 with h | h
  · obtain ⟨u, rfl⟩ : ∃ u : Nat, z = -(u : Int) := ⟨z.natAbs, by omega⟩
    rw [Lib.itoa_neg u (by omega), List.length_cons, Lib.decDigits_length]
    have := nDigits_le (k := L) (r := u) hL (by simpa using b)
    omega
  · obtain ⟨u, rfl⟩ : ∃ u : Nat, z = (u : Int) := ⟨z.natAbs, by omega⟩
    rw [Lib.itoa_nonneg u, Lib.decDigits_length]
    have := nDigits_le (k := L) (r := u) hL (by simpa using b)
    omega
theorem itoa_sizeT {z : Int} {L : Nat} (hL : 0 < L) (b : BT L z) : (⟨(itoa z).toArray⟩ : ByteArray).size ≤ L + 1 := by
  have := itoa_lenT hL b
  simpa [ByteArray.size] using this

theorem NumB.one {w : World} {v : Value} {L : Nat} (h : NumV w v 1) (hL : 0 < L) : NumB w v 1 L := ⟨h, Nat.lt_of_lt_of_le (show Int.natAbs 1 < pt 1 by decide) (pt_mono hL)⟩

set_option maxRecDepth 100000 in
set_option maxHeartbeats 8000000 in
theorem FText_any (x : Value) (q : Rat) (L : Nat) (w : World) (hx : FracV w x q) (bn : BT L q.num) (bd : BT L (q.den : Int)) (hL0 : 0 < L) (hL : L ≤ 10000000000) : Calls Tryz.prog 11 #[x] w (StrPost w (ratText q)) := by
  obtain ⟨s, A, n, c, s', A', n', c', rfl, hn, hd⟩ := hx
  obtain ⟨D, hD⟩ : ∃ D : Int, D = (q.den : Int) := ⟨_, rfl⟩
  obtain ⟨V, hV⟩ : ∃ V, V = ratText q := ⟨_, rfl⟩
  rw [← hV]
  have HV := Lib.hid hV
  have HD := Lib.hid hD
  rw [← hD] at hd bd
  clear hV hD
  have hE0 : Ext w (w.alloc (.cells #[.int .i64 s, .slice A n c, .int .i64 s', .slice A' n' c'] 35)) := (Ext.refl w).alloc _
  have B0 := Box.new w 35 #[.int .i64 s, .slice A n c, .int .i64 s', .slice A' n' c']
  have hn := hn.ext hE0
  have hd := hd.ext hE0
  have hNB : NumB _ _ q.num L := ⟨hn, bn⟩
  have hDB : NumB _ _ D L := ⟨hd, bd⟩
  have z1 := itoa_sizeT hL0 bn
  have z2 := itoa_sizeT hL0 bd
  obtain ⟨SN, hSN⟩ : ∃ S : ByteArray, S = ⟨(itoa q.num).toArray⟩ := ⟨_, rfl⟩
  obtain ⟨SD, hSD⟩ : ∃ S : ByteArray, S = ⟨(itoa D).toArray⟩ := ⟨_, rfl⟩
  rw [← hSN] at z1
  rw [← hSD] at z2
  have HSN := Lib.hid hSN
  have HSD := Lib.hid hSD
  clear hSN hSD
  go_enter Tryz.func11, Tryz.ntmps11
  go_wp2_with fail
  refine (RText_b _ _ _ _ hNB (by omega)).mono ?_
  rintro e w1 ⟨rfl, hx1⟩
  rw [← HSN.out]
  go_upto_region 2 with fail
  have B0 := B0.ext hx1
  have hDB := hDB.ext hx1
  have hE1 := hE0.trans hx1
  clear hx1 hE0 hn hd hNB
  have k02 : ∀ w', Later w1 w' → w'.cell? ⟨w.heap.size, 2, none⟩ = some (.int .i64 s') := fun w' h => (B0.ext h).c2
  have k03 : ∀ w', Later w1 w' → w'.cell? ⟨w.heap.size, 3, none⟩ = some (.slice A' n' c') := fun w' h => (B0.ext h).c3
  have hS0 := Later.refl w1
  by_cases h1 : D = 1
  · have e1 : (cmpZ D 1 != 0) = false := by rw [cmpZ_zero.2 h1]; rfl
    have HR := Lib.hid (show (⟨V.toArray⟩ : ByteArray) = SN by rw [HV.out, HSN.out]; unfold ratText; rw [if_pos (by have := HD.out; omega)])
    clear h1
    go_region_held3 (fun w' => Later w1 w') ((repeat (first | assumption | apply Later.drew | apply Later.drewN | apply Later.alloc | (refine Later.step ?_ (by assumption))))) (first
      | (go_at_call 30; (with_reducible refine (one_any _).mono ?_); rintro e wa ⟨va, rfl, ha, hxa⟩; (obtain ⟨s3, A3, n3, c3, rfl, -⟩ := ha.shape))
      | (go_at_call 38; (with_reducible refine (RCmp_b _ _ D 1 L L _ (hDB.ext (by repeat (first | (with_reducible exact Ext.refl _) | (with_reducible apply Ext.drew) | (with_reducible apply Ext.drewN) | (with_reducible refine Ext.trans ?_ (by assumption))))) (NumB.one ha hL0) (by omega)).mono ?_); rintro e wb ⟨rfl, hxb⟩)
      )
    all_goals go_wp2_with fail
    all_goals go_ret
    all_goals exact ⟨by rw [HR.out]; rfl, hE1.trans (show Later w1 _ by assumption)⟩
  · have e1 : (cmpZ D 1 != 0) = true := by
      have := mt cmpZ_zero.1 h1
      simpa using this
    have HS : Hid ((⟨V.toArray⟩ : ByteArray) = (SN ++ ⟨#[47]⟩) ++ SD) := Lib.hid (by rw [HV.out, HSN.out, HSD.out, cat_slash]; unfold ratText; rw [if_neg (by have := HD.out; omega), HD.out])
    have c1 : ¬ 9223372036854775807 < SN.size + 1 := by omega
    have c2 : ¬ 9223372036854775807 < SN.size + 1 + SD.size := by omega
    clear h1
    go_region_held3 (fun w' => Later w1 w') ((repeat (first | assumption | apply Later.drew | apply Later.drewN | apply Later.alloc | (refine Later.step ?_ (by assumption))))) (first
      | (go_at_call 30; (with_reducible refine (one_any _).mono ?_); rintro e wa ⟨va, rfl, ha, hxa⟩; (obtain ⟨s3, A3, n3, c3, rfl, -⟩ := ha.shape))
      | (go_at_call 38; (with_reducible refine (RCmp_b _ _ D 1 L L _ (hDB.ext (by repeat (first | (with_reducible exact Ext.refl _) | (with_reducible apply Ext.drew) | (with_reducible apply Ext.drewN) | (with_reducible refine Ext.trans ?_ (by assumption))))) (NumB.one ha hL0) (by omega)).mono ?_); rintro e wb ⟨rfl, hxb⟩)
      )
    all_goals (have hM : Ext w1 wb := (show Later w1 wb by assumption))
    all_goals go_wp2_with fail
    all_goals (
      refine (RText_b _ _ _ _ (hDB.ext hM) (by omega)).mono ?_
      rintro e w9 ⟨rfl, hx9⟩
      rw [← HSD.out]
      go_wp2_with fail
      go_ret
      exact ⟨by rw [HS.out]; rfl, hE1.trans (hM.trans hx9)⟩)
end Go.Proofs.YtginogcdjplhiaaGreatDoor.Ten

namespace Go.Proofs.YtginogcdjplhiaaGreatDoor.Ten
open Go.RowKit Go.Proofs.YtginogcdjplhiaaGreatDoor.Big Go.Proofs.YtginogcdjplhiaaGreatDoor.Rt
open Go.Lib (itoa)
attribute [local go_sem ↓] Go.wp_at_zero Go.wp_at_succ

/-- where the first slash stands, or the length -/
def slashAt (l : List UInt8) : Nat := (Lib.cut l [47]).1.length
theorem slash_facts (l : List UInt8) : slashAt l ≤ l.length ∧ (∀ j (h : j < l.length), j < slashAt l → l[j] ≠ 47) ∧ (∀ (h : slashAt l < l.length), l[slashAt l] = 47) ∧
    (decide (slashAt l < l.length) = (Lib.cut l [47]).2.2) ∧ l.take (slashAt l) = (Lib.cut l [47]).1 ∧ ((Lib.cut l [47]).2.2 = true → l.drop (slashAt l + 1) = (Lib.cut l [47]).2.1) := by
  unfold slashAt
  rcases cut_cases l with ⟨h, e⟩ | ⟨a, b, ha, rfl, e⟩
  · rw [e]
    refine ⟨Nat.le_refl _, fun j hj _ hc => h (hc ▸ List.getElem_mem hj), fun h => absurd h (Nat.lt_irrefl _), by simp, by simp, fun h => by cases h⟩
  · rw [e]
    refine ⟨by simp, fun j hj hja hc => ?_, fun h => ?_, by simp, by simp, fun _ => by simp⟩
    · rw [List.getElem_append_left (by simpa using hja)] at hc
      exact ha (hc ▸ List.getElem_mem _)
    · simp

theorem BT_redP {L : Nat} {n d : Int} (hn : BT L n) (hd : BT L d) (h : d ≠ 0) : BT L (Rat.divInt n d).num ∧ BT L ((Rat.divInt n d).den : Int) := by
  have key : ∀ n d : Int, BT L n → BT L d → 0 < d → BT L (Rat.divInt n d).num ∧ BT L ((Rat.divInt n d).den : Int) := by
    intro n d hn hd h
    obtain ⟨a, b⟩ := red_pos (n := n) h
    exact ⟨by rw [a]; exact BT_tdiv _ hn, by rw [b]; exact BT_tdiv _ hd⟩
  rcases Int.lt_or_lt_of_ne h with h | h
  · rw [← Rat.neg_divInt_neg]; exact key _ _ (BT_neg hn) (BT_neg hd) (by omega)
  · exact key _ _ hn hd h
theorem parse_boundTL {l : List UInt8} {k : Nat} (h1 : l.length ≤ k) (h2 : isDec l = true) : BT k (parseZ l) := by
  have h3 : digs (rest l) = true := by
    unfold isDec at h2
    simp only [Bool.and_eq_true] at h2
    exact h2.1.2
  unfold BT parseZ
  rw [sgn_natAbs]
  have h4 := valD_lt h3
  have h6 := rest_len l
  exact Nat.lt_of_lt_of_le h4 (Nat.pow_le_pow_right (by omega) (by omega))
theorem take_extract (s : ByteArray) (p : Nat) : (s.extract 0 p).data.toList = s.data.toList.take p := by
  simp [ByteArray.data_extract]
theorem FText_n' (x : Value) (q : Rat) (L : Nat) (w : World) (S : ByteArray) (hS : S = ⟨(ratText q).toArray⟩) (hx : FracV w x q) (bn : BT L q.num) (bd : BT L (q.den : Int)) (hL0 : 0 < L) (hL : L ≤ 10000000000) : Calls Tryz.prog 11 #[x] w (fun e w' => e = .returned (.string S) ∧ Ext w w') := by
  subst hS; exact FText_any x q L w hx bn bd hL0 hL
theorem BT_one {L : Nat} (h : 0 < L) : BT L 1 := Nat.lt_of_lt_of_le (show Int.natAbs 1 < pt 1 by decide) (pt_mono h)
theorem toList_eq' (l : List UInt8) : (⟨l.toArray⟩ : ByteArray).toList = l := by rw [Lib.toList_data]

set_option maxRecDepth 100000 in
set_option maxHeartbeats 8000000 in
theorem FParse_any (s : ByteArray) (w : World) (hs : s.size ≤ 200) : Calls Tryz.prog 7 #[.string s] w (fun e w' => ∃ v, e = .returned (.tuple #[v, .bool (isRat s.data.toList)]) ∧ (∃ s1 A n c s2 A' n' c', v = .agg #[.int .i64 s1, .slice A n c, .int .i64 s2, .slice A' n' c']) ∧ (isRat s.data.toList = true → FracV w' v (parseQ s.data.toList)) ∧ Ext w w') := by
  obtain ⟨l, hl⟩ : ∃ l, l = s.data.toList := ⟨_, rfl⟩
  have hll : l.length = s.size := by rw [hl]; rfl
  obtain ⟨P, hP⟩ : ∃ P, P = slashAt l := ⟨_, rfl⟩
  obtain ⟨f1, f2, f3, f4, f5, f6⟩ := slash_facts l
  rw [← hP] at f1 f2 f3 f4 f5 f6
  rw [hll] at f1 f4
  have F2 : Hid (∀ j (h : j < s.size), j < P → (s[j]'h).toNat ≠ 47) := Lib.hid (fun j h hj hc => f2 j (by rw [hll]; exact h) hj (by
    subst hl
    exact UInt8.toNat_inj.1 hc))
  have F3 : Hid (∀ (h : P < s.size), (s[P]'h).toNat = 47) := Lib.hid (fun h => by
    subst hl
    have := f3 (by rw [hll]; exact h)
    exact congrArg UInt8.toNat this)
  rw [← hl]
  obtain ⟨fb, hfb⟩ : ∃ b, b = (Lib.cut l [47]).2.2 := ⟨_, rfl⟩
  obtain ⟨la, hla⟩ : ∃ b, b = (Lib.cut l [47]).1 := ⟨_, rfl⟩
  obtain ⟨lb, hlb⟩ : ∃ b, b = (Lib.cut l [47]).2.1 := ⟨_, rfl⟩
  rw [← hfb] at f4 f6
  rw [← hla] at f5
  rw [← hlb] at f6
  have hiff := isRat_iff l
  obtain ⟨R, hRR⟩ : ∃ R, R = isRat l := ⟨_, rfl⟩
  obtain ⟨q, hqq⟩ : ∃ q, q = parseQ l := ⟨_, rfl⟩
  have hlal : la.length ≤ 200 := by rw [← f5, List.length_take]; omega
  have hlbl : fb = true → lb.length ≤ 200 := fun h => by rw [← f6 h, List.length_drop]; omega
  have HLBL := Lib.hid hlbl
  have hQ : parseQ l = Rat.divInt (parseZ la) (if fb then parseZ lb else 1) := by unfold parseQ; rw [← hfb, ← hla, ← hlb]
  rw [← hfb, ← hla, ← hlb, ← hRR, ← hqq] at hiff
  rw [← hqq] at hQ
  have hql : R = true → ratText q = l := fun h => by rw [hqq]; exact text_parse (hRR.symm.trans h)
  have HQL := Lib.hid hql
  rw [← hRR, ← hqq]
  have HIFF := Lib.hid hiff
  have HQ := Lib.hid hQ
  have F4 := Lib.hid f4
  have F5 := Lib.hid f5
  have F6 := Lib.hid f6
  have HL := Lib.hid hl
  have HLL := Lib.hid hll
  obtain ⟨S, hS⟩ : ∃ S : ByteArray, S = ⟨(ratText q).toArray⟩ := ⟨_, rfl⟩
  have hSeq : (S.toList == s.toList) = decide (ratText q = l) := by
    rw [hS, toList_eq', Lib.toList_data, ← hl]
    by_cases h : ratText q = l
    · rw [h]; simp
    · rw [decide_eq_false h, beq_eq_false_iff_ne]; exact h
  have HSEQ := Lib.hid hSeq
  have HS := Lib.hid hS
  clear f2 f3 f4 f5 f6 hiff hQ hfb hla hlb hP hl hll hRR hqq hS hSeq hlbl hql
  have hE0 : Ext w (w.alloc (.cells #[.int .i64 0, .slice none 0 0, .int .i64 0, .slice none 0 0] 35)) := (Ext.refl w).alloc _
  have B2 := Box.new w 35 #[.int .i64 0, .slice none 0 0, .int .i64 0, .slice none 0 0]
  go_enter Tryz.func7, Tryz.ntmps7
  go_wp2_with fail
  generalize (w.alloc (.cells #[.int .i64 0, .slice none 0 0, .int .i64 0, .slice none 0 0] 35)) = W0 at *
  go_loop [4, 5] (fun a i => ∃ j p : Nat, j ≤ s.size ∧ i = .int .i64 j ∧ a = .int .i64 p ∧ Hid (p = if P < j then P else s.size)) (fun _ i => s.size - (intOf i).toNat)
  case atStart => exact ⟨0, s.size, by omega, rfl, rfl, Lib.hid (by rw [if_neg (by omega)])⟩
  case round =>
    obtain ⟨j, p, hj, rfl, rfl, HPj⟩ := hrel
    by_cases hlt : j < s.size
    · have hpp := HPj.out
      by_cases h47 : (s[j]'hlt).toNat = 47
      · have e1 : ((((s[j]'hlt).toNat : Nat) : Int) == 47) = true := by rw [h47]; rfl
        by_cases hPj : P < j
        · have hp : p = P := by rw [hpp, if_pos hPj]
          have e2 : ((p : Int) == (s.size : Int)) = false := by
            rw [hp, beq_eq_false_iff_ne]; omega
          have HN := Lib.hid (show p = if P < j + 1 then P else s.size by rw [hp, if_pos (by omega)])
          clear hpp hp h47 hPj
          go_wp2_with fail
          go_round
          case rel => exact ⟨j + 1, p, by omega, by go_num, rfl, HN⟩
          case measure => simp [intOf]; omega
        · have hPe : P = j := by
            rcases Nat.lt_or_ge j P with h | h
            · exact absurd h47 (F2.out j hlt h)
            · omega
          have e2 : ((p : Int) == (s.size : Int)) = true := by
            rw [hpp, if_neg hPj]; simp
          have HN := Lib.hid (show j = if P < j + 1 then P else s.size by rw [if_pos (by omega), hPe])
          clear hpp h47 hPj hPe
          go_wp2_with fail
          go_round
          case rel => exact ⟨j + 1, j, by omega, by go_num, rfl, HN⟩
          case measure => simp [intOf]; omega
      · have e1 : ((((s[j]'hlt).toNat : Nat) : Int) == 47) = false := by
          rw [beq_eq_false_iff_ne]; omega
        have hne : P ≠ j := fun e => h47 (by subst e; exact F3.out hlt)
        have HN := Lib.hid (show p = if P < j + 1 then P else s.size by
          rw [hpp]
          by_cases h : P < j
          · rw [if_pos h, if_pos (by omega)]
          · rw [if_neg h, if_neg (by omega)])
        clear hpp h47 hne
        go_wp2_with fail
        go_round
        case rel => exact ⟨j + 1, p, by omega, by go_num, rfl, HN⟩
        case measure => simp [intOf]; omega
    · obtain rfl : j = s.size := by omega
      have hp : p = P := by
        rw [HPj.out]
        by_cases h : P < s.size
        · rw [if_pos h]
        · rw [if_neg h]; omega
      subst hp
      clear HPj hlt
      go_wp2_with fail
      have hE := hE0
      obtain ⟨SA, hSA⟩ : ∃ S : ByteArray, S = s.extract 0 p := ⟨_, rfl⟩
      have hSl : SA.data.toList = la := by rw [hSA, take_extract, ← HL.out, F5.out]
      have hSs : SA.size ≤ 200 := by
        have h1 : SA.data.toList.length = SA.size := rfl
        rw [hSl] at h1; omega
      rw [← hSA]
      have HSL := Lib.hid hSl
      clear hSA hSl
      refine (Ten.Parse_any SA _ (by omega)).mono ?_
      rintro e x1 ⟨v1, N, rfl, hN, hNv, -, hx1⟩
      rw [HSL.out] at hNv ⊢
      obtain ⟨da, hda⟩ : ∃ b, b = isDec la := ⟨_, rfl⟩
      rw [← hda] at hNv ⊢
      have HDA := Lib.hid hda
      have HNV := Lib.hid hNv
      clear hda hNv
      obtain ⟨s1, A1, n1, c1, rfl, -⟩ := hN.shape
      go_upto_region 8 with fail
      have hy1 : Ext x1 (x1.alloc (.cells #[.int .i64 s1, .slice A1 n1 c1] 33)) := (Ext.refl x1).alloc _
      have B6 := Box.new x1 33 #[.int .i64 s1, .slice A1 n1 c1]
      have hxy := hx1.trans hy1
      have hN := hN.ext hy1
      have B2 := B2.ext hxy
      have hE := hE.trans hxy
      generalize (x1.alloc (.cells #[.int .i64 s1, .slice A1 n1 c1] 33)) = Y1 at *
      clear hx1 hy1 hxy
      go_wp2_with fail
      refine (one_any _).mono ?_
      rintro e x2 ⟨v2, rfl, hO, hx2⟩
      obtain ⟨s2, A2, n2, c2, rfl, hs2⟩ := hO.shape
      have HS2 := Lib.hid hs2
      clear hs2
      go_upto_region 9 with fail
      have hy2 : Ext x2 (x2.alloc (.cells #[.int .i64 s2, .slice A2 n2 c2] 33)) := (Ext.refl x2).alloc _
      have B8 := Box.new x2 33 #[.int .i64 s2, .slice A2 n2 c2]
      have hlt2 := (B2.ext hx2).lt
      have hlt6 := (B6.ext hx2).lt
      have hxy := hx2.trans hy2
      have hO := hO.ext hy2
      have hN := hN.ext hxy
      have B2 := B2.ext hxy
      have B6 := B6.ext hxy
      have hE := hE.trans hxy
      generalize (x2.alloc (.cells #[.int .i64 s2, .slice A2 n2 c2] 33)) = Y2 at *
      clear hx2 hy2 hxy hE0
      have m1 : ¬ w.heap.size = x2.heap.size := by omega
      have m2 : ¬ x2.heap.size = w.heap.size := by omega
      have m3 : ¬ x1.heap.size = x2.heap.size := by omega
      have m4 : ¬ x2.heap.size = x1.heap.size := by omega
      have hRd : da = false → R = false := fun h => by
        have h1 := HIFF.out
        cases R with
        | false => rfl
        | true =>
          rcases h1.1 rfl with h2 | h2
          · have := HDA.out; rw [h2.2, h] at this; cases this
          · have := HDA.out; rw [h2.2.1, h] at this; cases this
      cases da
      case false =>
        have HRf := Lib.hid (hRd rfl)
        clear hRd
        have hq0 := B2.c0
        have hq1 := B2.c1
        have hq2 := B2.c2
        have hq3 := B2.c3
        have hf0 := B2.frozen 0
        have hf1 := B2.frozen 1
        have hf2 := B2.frozen 2
        have hf3 := B2.frozen 3
        go_wp2_with fail
        have pb := B2.set4 (.int .i64 0) (.slice none 0 0) (.int .i64 0) (.slice none 0 0)
        have pc0 := pb.c0
        have pc1 := pb.c1
        have pc2 := pb.c2
        have pc3 := pb.c3
        refine bodyPost_ret (v := .tuple #[.agg #[.int .i64 0, .slice none 0 0, .int .i64 0, .slice none 0 0], .bool false]) (by simp [results, Tryz.results7, go_sem, pc0, pc1, pc2, pc3]) rfl ?_
        exact ⟨_, by rw [HRf.out], ⟨_, _, _, _, _, _, _, _, rfl⟩, fun h => absurd (h.symm.trans HRf.out) (by decide), (((hE.set (by simp) _).set (by simp) _).set (by simp) _).set (by simp) _⟩
      have tN : BT 200 N := by rw [HNV.out rfl]; exact parse_boundTL hlal HDA.out.symm
      clear hRd
      have e3 : decide ((p : Int) < (s.size : Int)) = fb := by rw [← F4.out]; simp
      have e3n : decide (p < s.size) = fb := F4.out
      have hNs : N = parseZ la := HNV.out rfl
      have HNS := Lib.hid hNs
      clear hNs
      have q60 := B6.c0
      have q61 := B6.c1
      have q80 := B8.c0
      have q81 := B8.c1
      cases fb
      case false =>
        have hps : s.size ≤ p := by have := F4.out; simpa using this
        have e4 : decide (0 < s2) = true := by rw [HS2.out]; rfl
        have hRt : R = true := by
          have := HIFF.out.2 (.inl ⟨rfl, HDA.out.symm⟩); exact this
        have HQD := Lib.hid (show q = Rat.divInt N 1 by rw [HQ.out, HNS.out]; rfl)
        have eS : (S.toList == s.toList) = R := by
          rw [HSEQ.out, hRt, HQL.out (by rw [hRt]), decide_eq_true rfl]
        clear hRt
        go_wp2_with fail
        refine (FMake_any _ _ N 1 200 _ hN hO tN (BT_one (by decide)) (by decide) (by decide)).mono ?_
        rintro e x5 ⟨v5, rfl, hfr, hx5⟩
        rw [← HQD.out] at hfr
        obtain ⟨s5, A5, n5, c5, s6, A6, n6, c6, rfl, hf1, hf2⟩ := hfr
        go_upto_region 15 with fail
        have hy5 : Ext x5 (x5.alloc (.cells #[.int .i64 s5, .slice A5 n5 c5, .int .i64 s6, .slice A6 n6 c6] 35)) := (Ext.refl x5).alloc _
        have B9 := Box.new x5 35 #[.int .i64 s5, .slice A5 n5 c5, .int .i64 s6, .slice A6 n6 c6]
        have hxy := hx5.trans hy5
        have hf1 := hf1.ext hy5
        have hf2 := hf2.ext hy5
        have hlt := (B2.ext hx5).lt
        have B2 := B2.ext hxy
        have hE := hE.trans hxy
        generalize (x5.alloc (.cells #[.int .i64 s5, .slice A5 n5 c5, .int .i64 s6, .slice A6 n6 c6] 35)) = Y5 at *
        clear hx5 hy5 hxy
        have ks := KE.start (R := [w.heap.size]) hE (by simp)
        have kb9 : x5.heap.size ∉ [w.heap.size] := by simp; omega
        have k90 : ∀ w', KE [w.heap.size] w Y5 w' → w'.cell? ⟨x5.heap.size, 0, none⟩ = some (.int .i64 s5) := fun w' h => (h.bx B9 kb9).c0
        have k91 : ∀ w', KE [w.heap.size] w Y5 w' → w'.cell? ⟨x5.heap.size, 1, none⟩ = some (.slice A5 n5 c5) := fun w' h => (h.bx B9 kb9).c1
        have k92 : ∀ w', KE [w.heap.size] w Y5 w' → w'.cell? ⟨x5.heap.size, 2, none⟩ = some (.int .i64 s6) := fun w' h => (h.bx B9 kb9).c2
        have k93 : ∀ w', KE [w.heap.size] w Y5 w' → w'.cell? ⟨x5.heap.size, 3, none⟩ = some (.slice A6 n6 c6) := fun w' h => (h.bx B9 kb9).c3
        obtain ⟨tq1, tq2⟩ := BT_redP tN (BT_one (by decide)) (by decide)
        rw [← HQD.out] at tq1 tq2
        have hfv : FracV Y5 _ q := ⟨_, _, _, _, _, _, _, _, rfl, hf1, hf2⟩
        go_region_held3 (fun w' => KE [w.heap.size] w Y5 w') ((repeat (first | assumption | apply KE.drew | apply KE.drewN | apply KE.alloc | (refine KE.set ?_ (by simp) _) | (refine KE.step ?_ (by assumption))))) (first
          | (go_at_call 11; (with_reducible refine (FText_n' _ q 200 _ S HS.out (hfv.ext (Ext.refl _).drew) tq1 tq2 (by decide) (by decide)).mono ?_); rintro e wk ⟨rfl, hxk⟩; (have b2 := B2.drew.ext hxk); have q0 := b2.c0; have q1 := b2.c1; have q2 := b2.c2; have q3 := b2.c3; have f0 := b2.frozen 0; have f1 := b2.frozen 1; have f2 := b2.frozen 2; have f3 := b2.frozen 3)
          )
        all_goals go_wp2_with fail
        all_goals (
          obtain ⟨pp, pb⟩ := FracV.put (hf1.ext (drew_of hxk)) (hf2.ext (drew_of hxk)) b2
          have pc0 := pb.c0
          have pc1 := pb.c1
          have pc2 := pb.c2
          have pc3 := pb.c3
          refine bodyPost_ret (v := .tuple #[.agg #[.int .i64 s5, .slice A5 n5 c5, .int .i64 s6, .slice A6 n6 c6], .bool R]) (by simp [results, Tryz.results7, go_sem, pc0, pc1, pc2, pc3]) rfl ?_
          exact ⟨_, rfl, ⟨_, _, _, _, _, _, _, _, rfl⟩, fun _ => pp, KE.ext (R := [w.heap.size]) (W0 := Y5) (by assumption)⟩)
      case true =>
        clear hO
        have hps : p < s.size := by have := F4.out; simpa using this
        obtain ⟨SB, hSB⟩ : ∃ S : ByteArray, S = s.extract (p + 1) s.size := ⟨_, rfl⟩
        have hSBl : SB.data.toList = lb := by rw [hSB, Lib.extract_to_end, ← HL.out, F6.out rfl]
        have hSBs : SB.size ≤ 200 := by
          have h1 : SB.data.toList.length = SB.size := rfl
          have h2 := HLBL.out rfl
          rw [hSBl] at h1; omega
        have HSBL := Lib.hid hSBl
        have hI : R = true ↔ (isDec lb = true ∧ 0 < parseZ lb ∧ ratText q = l) := by
          constructor
          · intro h
            rcases HIFF.out.1 h with h2 | h2
            · cases h2.1
            · exact ⟨h2.2.2.1, h2.2.2.2.1, h2.2.2.2.2⟩
          · rintro ⟨h1, h2, h3⟩
            exact HIFF.out.2 (.inr ⟨rfl, HDA.out.symm, h1, h2, h3⟩)
        have HI := Lib.hid hI
        have hlb2 : lb.length ≤ 200 := HLBL.out rfl
        have hQD : q = Rat.divInt N (parseZ lb) := by rw [HQ.out, HNS.out]; rfl
        have HQD0 := Lib.hid hQD
        clear hI hQD
        have hSB' : s.extract (p + 1) s.size = SB := hSB.symm
        clear hSBl hSB
        go_wp2_with fail
        refine (Ten.Parse_any SB _ (by omega)).mono ?_
        rintro e x3 ⟨v3, D, rfl, hD, hDv, -, hx3⟩
        rw [HSBL.out] at hDv ⊢
        obtain ⟨db, hdb⟩ : ∃ b, b = isDec lb := ⟨_, rfl⟩
        rw [← hdb] at hDv ⊢
        have HDB := Lib.hid hdb
        have HDV := Lib.hid hDv
        clear hdb hDv
        obtain ⟨s3, A3, n3, c3, rfl, hs3⟩ := hD.shape
        have HS3 := Lib.hid hs3
        clear hs3
        have D8 := B8.ext hx3
        have u0 := D8.c0
        have u1 := D8.c1
        have g0 := D8.frozen 0
        have g1 := D8.frozen 1
        go_upto_region 11 with fail
        have hN := (hN.ext hx3).s2 D8 (.int .i64 s3) (.slice A3 n3 c3)
        have hD := hD.s2 D8 (.int .i64 s3) (.slice A3 n3 c3)
        have B2 := Box.f2 (B2.ext hx3) (show w.heap.size ≠ x2.heap.size from m1) (.int .i64 s3) (.slice A3 n3 c3)
        have B6 := Box.f2 (B6.ext hx3) (show x1.heap.size ≠ x2.heap.size from m3) (.int .i64 s3) (.slice A3 n3 c3)
        have hle : w.heap.size ≤ x2.heap.size := by omega
        have hE := ((hE.trans hx3).set (p := ⟨x2.heap.size, 0, none⟩) hle (.int .i64 s3)).set (p := ⟨x2.heap.size, 1, none⟩) hle (.slice A3 n3 c3)
        have B8 := D8.put2 (.int .i64 s3) (.slice A3 n3 c3)
        generalize ((x3.setCell ⟨x2.heap.size, 0, none⟩ (.int .i64 s3)).setCell ⟨x2.heap.size, 1, none⟩ (.slice A3 n3 c3)) = Y3 at *
        clear D8 u0 u1 g0 g1 hx3 q60 q61 q80 q81
        have q60 := B6.c0
        have q61 := B6.c1
        have q80 := B8.c0
        have q81 := B8.c1
        cases db
        case false =>
          have HRf := Lib.hid (show R = false by
            cases hR : R with
            | false => rfl
            | true =>
              have h2 := HI.out.1 hR
              have := HDB.out; rw [h2.1] at this; cases this)
          have hq0 := B2.c0
          have hq1 := B2.c1
          have hq2 := B2.c2
          have hq3 := B2.c3
          have hf0 := B2.frozen 0
          have hf1 := B2.frozen 1
          have hf2 := B2.frozen 2
          have hf3 := B2.frozen 3
          go_wp2_with fail
          have pb := B2.set4 (.int .i64 0) (.slice none 0 0) (.int .i64 0) (.slice none 0 0)
          have pc0 := pb.c0
          have pc1 := pb.c1
          have pc2 := pb.c2
          have pc3 := pb.c3
          refine bodyPost_ret (v := .tuple #[.agg #[.int .i64 0, .slice none 0 0, .int .i64 0, .slice none 0 0], .bool false]) (by simp [results, Tryz.results7, go_sem, pc0, pc1, pc2, pc3]) rfl ?_
          exact ⟨_, by rw [HRf.out], ⟨_, _, _, _, _, _, _, _, rfl⟩, fun h => absurd (h.symm.trans HRf.out) (by decide), (((hE.set (by simp) _).set (by simp) _).set (by simp) _).set (by simp) _⟩
        case true =>
          have hDs := HDV.out rfl
          have tD : BT 200 D := by rw [hDs]; exact parse_boundTL hlb2 HDB.out.symm
          by_cases hD0 : 0 < D
          · have e4 : decide (0 < s3) = true := by rw [HS3.out, Int.sign_eq_one_of_pos hD0]; rfl
            have HQD := Lib.hid (show q = Rat.divInt N D by rw [HQD0.out, hDs])
            have HD0 := Lib.hid (show D ≠ 0 by omega)
            have eS : (S.toList == s.toList) = R := by
              rw [HSEQ.out]
              cases hR : R with
              | true => rw [(HI.out.1 hR).2.2, decide_eq_true rfl]
              | false =>
                refine decide_eq_false (fun h => ?_)
                have := HI.out.2 ⟨HDB.out.symm, by rw [← hDs]; exact hD0, h⟩
                rw [hR] at this; cases this
            clear hDs hD0
            go_wp2_with fail
            refine (FMake_any _ _ N D 200 _ hN hD tN tD (by decide) HD0.out).mono ?_
            rintro e x5 ⟨v5, rfl, hfr, hx5⟩
            rw [← HQD.out] at hfr
            obtain ⟨s5, A5, n5, c5, s6, A6, n6, c6, rfl, hf1, hf2⟩ := hfr
            go_upto_region 15 with fail
            have hy5 : Ext x5 (x5.alloc (.cells #[.int .i64 s5, .slice A5 n5 c5, .int .i64 s6, .slice A6 n6 c6] 35)) := (Ext.refl x5).alloc _
            have B9 := Box.new x5 35 #[.int .i64 s5, .slice A5 n5 c5, .int .i64 s6, .slice A6 n6 c6]
            have hxy := hx5.trans hy5
            have hf1 := hf1.ext hy5
            have hf2 := hf2.ext hy5
            have hlt := (B2.ext hx5).lt
            have B2 := B2.ext hxy
            have hE := hE.trans hxy
            generalize (x5.alloc (.cells #[.int .i64 s5, .slice A5 n5 c5, .int .i64 s6, .slice A6 n6 c6] 35)) = Y5 at *
            clear hx5 hy5 hxy
            have ks := KE.start (R := [w.heap.size]) hE (by simp)
            have kb9 : x5.heap.size ∉ [w.heap.size] := by simp; omega
            have k90 : ∀ w', KE [w.heap.size] w Y5 w' → w'.cell? ⟨x5.heap.size, 0, none⟩ = some (.int .i64 s5) := fun w' h => (h.bx B9 kb9).c0
            have k91 : ∀ w', KE [w.heap.size] w Y5 w' → w'.cell? ⟨x5.heap.size, 1, none⟩ = some (.slice A5 n5 c5) := fun w' h => (h.bx B9 kb9).c1
            have k92 : ∀ w', KE [w.heap.size] w Y5 w' → w'.cell? ⟨x5.heap.size, 2, none⟩ = some (.int .i64 s6) := fun w' h => (h.bx B9 kb9).c2
            have k93 : ∀ w', KE [w.heap.size] w Y5 w' → w'.cell? ⟨x5.heap.size, 3, none⟩ = some (.slice A6 n6 c6) := fun w' h => (h.bx B9 kb9).c3
            obtain ⟨tq1, tq2⟩ := BT_redP tN tD HD0.out
            rw [← HQD.out] at tq1 tq2
            have hfv : FracV Y5 _ q := ⟨_, _, _, _, _, _, _, _, rfl, hf1, hf2⟩
            go_region_held3 (fun w' => KE [w.heap.size] w Y5 w') ((repeat (first | assumption | apply KE.drew | apply KE.drewN | apply KE.alloc | (refine KE.set ?_ (by simp) _) | (refine KE.step ?_ (by assumption))))) (first
              | (go_at_call 11; (with_reducible refine (FText_n' _ q 200 _ S HS.out (hfv.ext (Ext.refl _).drew) tq1 tq2 (by decide) (by decide)).mono ?_); rintro e wk ⟨rfl, hxk⟩; (have b2 := B2.drew.ext hxk); have q0 := b2.c0; have q1 := b2.c1; have q2 := b2.c2; have q3 := b2.c3; have f0 := b2.frozen 0; have f1 := b2.frozen 1; have f2 := b2.frozen 2; have f3 := b2.frozen 3)
              )
            all_goals go_wp2_with fail
            all_goals (
              obtain ⟨pp, pb⟩ := FracV.put (hf1.ext (drew_of hxk)) (hf2.ext (drew_of hxk)) b2
              have pc0 := pb.c0
              have pc1 := pb.c1
              have pc2 := pb.c2
              have pc3 := pb.c3
              refine bodyPost_ret (v := .tuple #[.agg #[.int .i64 s5, .slice A5 n5 c5, .int .i64 s6, .slice A6 n6 c6], .bool R]) (by simp [results, Tryz.results7, go_sem, pc0, pc1, pc2, pc3]) rfl ?_
              exact ⟨_, rfl, ⟨_, _, _, _, _, _, _, _, rfl⟩, fun _ => pp, KE.ext (R := [w.heap.size]) (W0 := Y5) (by assumption)⟩)
          · have e4 : decide (0 < s3) = false := by
              rw [HS3.out]; rcases sign_cases D with ⟨a, b⟩ | ⟨a, b⟩ | ⟨a, b⟩ <;> rw [b] <;> simp <;> omega
            have HRf := Lib.hid (show R = false by
              cases hR : R with
              | false => rfl
              | true =>
                have := (HI.out.1 hR).2.1; rw [← hDs] at this; exact absurd this hD0)
            clear hDs hD0
            have hq0 := B2.c0
            have hq1 := B2.c1
            have hq2 := B2.c2
            have hq3 := B2.c3
            have hf0 := B2.frozen 0
            have hf1 := B2.frozen 1
            have hf2 := B2.frozen 2
            have hf3 := B2.frozen 3
            go_wp2_with fail
            have pb := B2.set4 (.int .i64 0) (.slice none 0 0) (.int .i64 0) (.slice none 0 0)
            have pc0 := pb.c0
            have pc1 := pb.c1
            have pc2 := pb.c2
            have pc3 := pb.c3
            refine bodyPost_ret (v := .tuple #[.agg #[.int .i64 0, .slice none 0 0, .int .i64 0, .slice none 0 0], .bool false]) (by simp [results, Tryz.results7, go_sem, pc0, pc1, pc2, pc3]) rfl ?_
            exact ⟨_, by rw [HRf.out], ⟨_, _, _, _, _, _, _, _, rfl⟩, fun h => absurd (h.symm.trans HRf.out) (by decide), (((hE.set (by simp) _).set (by simp) _).set (by simp) _).set (by simp) _⟩
end Go.Proofs.YtginogcdjplhiaaGreatDoor.Ten
