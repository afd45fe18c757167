/- The reference of the rational numbers: one, gcd walked. -/
import Derived.Test.YteohdiaegnfbaaaDoorR8
import Derived.Test.YteohdiaegnfbaaaDoorT1
import Derived.Deep.LoopGhost
set_option linter.unusedVariables false
set_option linter.unusedSimpArgs false
namespace Go.Proofs.YteohdiaegnfbaaaDoor.Ten
open Go.RowKit Go.Proofs.YteohdiaegnfbaaaDoor.Big Go.Proofs.YteohdiaegnfbaaaDoor.Rt

theorem dg_one : dg 1 0 = 1 := by decide
theorem ten_one (w : World) : Ten (w.alloc (.cells #[.int .i64 1] 3)) (.slice (some ⟨w.heap.size, 0, none⟩) 1 1) 1 1 :=
  ⟨_, 1, rfl, by omega, by omega, by decide, fun _ => ⟨w.heap.size, 0, _, _, rfl, heap_alloc_new w _, fun j hj => by
    obtain rfl : j = 0 := by omega
    rw [cell_of_row _ _ _ _ _ _ (heap_alloc_new w _), dg_one]; rfl⟩⟩

set_option maxHeartbeats 2000000 in
theorem one_any (w : World) : Calls Tryd.prog 47 #[] w (NPost w 1) := by
  go_enter Tryd.func47, Tryd.ntmps47
  go_wp2_with fail
  have B0 := (Box.new w 39 #[.int .i64 1, .slice (some ⟨w.heap.size + 1, 0, none⟩) 1 1]).alloc (.cells #[.int .i64 1] 3)
  have hT := ten_one (w.alloc (.cells #[.int .i64 1, .slice (some ⟨w.heap.size + 1, 0, none⟩) 1 1] 39))
  rw [show (w.alloc (.cells #[.int .i64 1, .slice (some ⟨w.heap.size + 1, 0, none⟩) 1 1] 39)).heap.size = w.heap.size + 1 by simp] at hT
  have p2 := B0.c0
  have p3 := B0.c1
  refine bodyPost_ret (v := .agg #[.int .i64 1, .slice (some ⟨w.heap.size + 1, 0, none⟩) 1 1]) (by simp [results, Tryd.results47, go_sem]) rfl ?_
  exact ⟨_, rfl, ⟨_, _, _, rfl, hT, .inr (by decide)⟩, ((Ext.refl w).alloc _).alloc _⟩

/-- two numbers stored into two boxes -/
theorem NumV.two_put {w : World} {b c : Nat} {s s0 s' s0' : Int} {A A0 A' A0' : Option Addr} {n k n0 k0 n' k' n0' k0' : Nat} {z z' : Int} (hne : b ≠ c)
    (h : NumV w (.agg #[.int .i64 s, .slice A n k]) z) (h' : NumV w (.agg #[.int .i64 s', .slice A' n' k']) z') (hb : Box w b 39 #[.int .i64 s0, .slice A0 n0 k0]) (hc : Box w c 39 #[.int .i64 s0', .slice A0' n0' k0']) :
    ∃ w', w' = ((((w.setCell ⟨b, 0, none⟩ (.int .i64 s)).setCell ⟨b, 1, none⟩ (.slice A n k)).setCell ⟨c, 0, none⟩ (.int .i64 s')).setCell ⟨c, 1, none⟩ (.slice A' n' k')) ∧
      NumV w' (.agg #[.int .i64 s, .slice A n k]) z ∧ NumV w' (.agg #[.int .i64 s', .slice A' n' k']) z' ∧ Box w' b 39 #[.int .i64 s, .slice A n k] ∧ Box w' c 39 #[.int .i64 s', .slice A' n' k'] := by
  refine ⟨_, rfl, ?_, ?_, ?_, ?_⟩
  all_goals (
    have hb2 := hb.put2 (.int .i64 s) (.slice A n k)
    have hc2 := (hc.far (p := ⟨b, 0, none⟩) (fun e => hne e.symm) (.int .i64 s)).far (p := ⟨b, 1, none⟩) (fun e => hne e.symm) (.slice A n k))
  · exact (((h.far hb numNe 0 _).far (hb.set 0 _) numNe 1 _).far hc2 numNe 0 _).far (hc2.set 0 _) numNe 1 _
  · exact (((h'.far hb numNe 0 _).far (hb.set 0 _) numNe 1 _).far hc2 numNe 0 _).far (hc2.set 0 _) numNe 1 _
  · exact (hb2.far (p := ⟨c, 0, none⟩) hne (.int .i64 s')).far (p := ⟨c, 1, none⟩) hne (.slice A' n' k')
  · exact hc2.put2 (.int .i64 s') (.slice A' n' k')
theorem NumV.sign_of {w : World} {s : Int} {A : Option Addr} {n c : Nat} {z : Int} (h : NumV w (.agg #[.int .i64 s, .slice A n c]) z) : s = z.sign := by
  obtain ⟨A', n', c', e, _⟩ := h
  simp only [Value.agg.injEq, Array.mk.injEq, List.cons.injEq, Value.int.injEq, Value.slice.injEq, and_true] at e
  exact e.1.2
theorem sign_bne {x : Int} : (x.sign != 0) = decide (x ≠ 0) := by
  rcases sign_cases x with ⟨a, b⟩ | ⟨a, b⟩ | ⟨a, b⟩ <;> rw [b] <;> simp <;> omega

set_option maxHeartbeats 4000000 in
theorem gcd_any (x y : Value) (X Y : Nat) (L : Nat) (w : World) (hx : NumV w x (X : Int)) (hy : NumV w y (Y : Int)) (bx : X < pt L) (bY : Y < pt L) (hL : L ≤ 100000000000) :
    Calls Tryd.prog 64 #[x, y] w (NPost w ((Nat.gcd X Y : Nat) : Int)) := by
  obtain ⟨s1, A1, n1, c1, rfl, -⟩ := hx.shape
  obtain ⟨s2, A2, n2, c2, rfl, -⟩ := hy.shape
  obtain ⟨G, hG⟩ : ∃ G, Nat.gcd X Y = G := ⟨_, rfl⟩
  rw [hG]
  have HG := Lib.hid hG
  clear hG
  go_enter Tryd.func64, Tryd.ntmps64
  go_wp2_with fail
  obtain ⟨B0, B1, B2, hE0⟩ := boxes3 w 39 #[.int .i64 s1, .slice A1 n1 c1] #[.int .i64 s2, .slice A2 n2 c2] #[.int .i64 0, .slice none 0 0]
  have hx := hx.ext hE0
  have hy := hy.ext hE0
  generalize (((w.alloc (.cells #[.int .i64 s1, .slice A1 n1 c1] 39)).alloc (.cells #[.int .i64 s2, .slice A2 n2 c2] 39)).alloc (.cells #[.int .i64 0, .slice none 0 0] 39)) = W0 at *
  go_loopg [] (Y) (fun g wr => ∃ (s s' : Int) (A A' : Option Addr) (n c n' c' a b : Nat), Box wr w.heap.size 39 #[.int .i64 s, .slice A n c] ∧ Box wr (w.heap.size + 1) 39 #[.int .i64 s', .slice A' n' c'] ∧ Box wr (w.heap.size + 1 + 1) 39 #[.int .i64 0, .slice none 0 0] ∧ NumV wr (.agg #[.int .i64 s, .slice A n c]) (a : Int) ∧ NumV wr (.agg #[.int .i64 s', .slice A' n' c']) (b : Int) ∧ Hid (Nat.gcd a b = G) ∧ a < pt L ∧ b < pt L ∧ b ≤ g ∧ Ext w wr)
  case atStart => exact ⟨_, _, _, _, _, _, _, _, X, Y, B0, B1, B2, hx, hy, HG, bx, bY, Nat.le_refl _, hE0⟩
  case round =>
    obtain ⟨s, s', A, A', n, c, n', c', a, b, D0, D1, D2, ha, hb, HGab, la, lb, hbg, hE⟩ := hrel
    have hs' := hb.sign_of
    have q0 := D1.c0
    have q1 := D1.c1
    by_cases h0 : b = 0
    · have e1 : (s' != 0) = false := by rw [hs', sign_bne, h0]; rfl
      have haG : a = G := by have := HGab.out; rw [h0, Nat.gcd_zero_right] at this; exact this
      rw [haG] at ha
      clear haG h0 hs'
      have r0 := D0.c0
      have r1 := D0.c1
      have t0 := D2.c0
      have t1 := D2.c1
      have f0 := D2.frozen 0
      have f1 := D2.frozen 1
      go_wp2_with fail
      obtain ⟨p1, p2, p3⟩ := ha.put D2
      refine bodyPost_ret (v := .agg #[.int .i64 s, .slice A n c]) (by simp [results, Tryd.results64, go_sem, p2, p3]) rfl ?_
      exact ⟨_, rfl, p1, (hE.set (by simp; omega) _).set (by simp; omega) _⟩
    · have e1 : (s' != 0) = true := by rw [hs', sign_bne]; simp; omega
      have HB0 := Lib.hid h0
      clear h0 hs'
      have r0 := D0.c0
      have r1 := D0.c1
      go_wp2_with fail
      refine (Div_any _ _ (a : Int) (b : Int) L _ ha hb (by simpa using la) (by simpa using lb) hL (by have := HB0.out; omega)).mono ?_
      rintro e w3 ⟨v3, v4, rfl, h3, h4, hx3⟩
      rw [show (a : Int).tmod (b : Int) = ((a % b : Nat) : Int) from (Int.ofNat_tmod a b).symm] at h4
      obtain ⟨s3, A3, n3, c3, rfl, -⟩ := h3.shape
      obtain ⟨s4, A4, n4, c4, rfl, -⟩ := h4.shape
      clear h3
      go_upto_region 3 with fail
      obtain ⟨B5, B6, hx4⟩ := boxes2 w3 39 #[.int .i64 s3, .slice A3 n3 c3] #[.int .i64 s4, .slice A4 n4 c4]
      have hx34 := hx3.trans hx4
      have hlt := (D2.ext hx3).lt
      have m1 : ¬ w.heap.size = w3.heap.size + 1 := by omega
      have m2 : ¬ w3.heap.size + 1 = w.heap.size := by omega
      have m3 : ¬ w.heap.size = w3.heap.size := by omega
      have m4 : ¬ w3.heap.size = w.heap.size := by omega
      have D0 := D0.ext hx34
      have D1 := D1.ext hx34
      have D2 := D2.ext hx34
      have hb := hb.ext hx34
      have h4 := h4.ext hx4
      have hE := hE.trans hx34
      generalize ((w3.alloc (.cells #[.int .i64 s3, .slice A3 n3 c3] 39)).alloc (.cells #[.int .i64 s4, .slice A4 n4 c4] 39)) = W4 at *
      clear hx3 hx4 hx34 q0 q1 r0 r1 B5 ha
      have HM := Lib.hid (show a % b < b from Nat.mod_lt _ (by have := HB0.out; omega))
      have q0 := D1.c0
      have q1 := D1.c1
      have f0 := D1.frozen 0
      have f1 := D1.frozen 1
      have r0 := D0.c0
      have r1 := D0.c1
      have g0 := D0.frozen 0
      have g1 := D0.frozen 1
      have t0 := B6.c0
      have t1 := B6.c1
      obtain ⟨w', hw', z1, z2, z3, z4⟩ := NumV.two_put (by omega) hb h4 D0 D1
      have z5 := (((D2.far (p := ⟨w.heap.size, 0, none⟩) (by simp; omega) (.int .i64 s')).far (p := ⟨w.heap.size, 1, none⟩) (by simp; omega) (.slice A' n' c')).far (p := ⟨w.heap.size + 1, 0, none⟩) (by simp) (.int .i64 s4)).far (p := ⟨w.heap.size + 1, 1, none⟩) (by simp) (.slice A4 n4 c4)
      have z6 := (((hE.set (p := ⟨w.heap.size, 0, none⟩) (Nat.le_refl _) (.int .i64 s')).set (p := ⟨w.heap.size, 1, none⟩) (Nat.le_refl _) (.slice A' n' c')).set (p := ⟨w.heap.size + 1, 0, none⟩) (by simp) (.int .i64 s4)).set (p := ⟨w.heap.size + 1, 1, none⟩) (by simp) (.slice A4 n4 c4)
      rw [← hw'] at z5 z6
      have HW := Lib.hid hw'
      clear hw'
      go_region
      all_goals (go_wp2_with fail)
      all_goals (rw [← HW.out])
      all_goals (go_roundg (a % b))
      all_goals first
        | exact Nat.lt_of_lt_of_le HM.out hbg
        | exact ⟨s', s4, A', A4, n', c', n4, c4, b, a % b, z3.drew, z4.drew, z5.drew, z1.ext (Ext.refl _).drew, z2.ext (Ext.refl _).drew, Lib.hid (by rw [← HGab.out, Nat.gcd_comm a b, Nat.gcd_rec b a, Nat.gcd_comm]), lb, Nat.lt_trans HM.out lb, Nat.le_refl _, z6.drew⟩
end Go.Proofs.YteohdiaegnfbaaaDoor.Ten
