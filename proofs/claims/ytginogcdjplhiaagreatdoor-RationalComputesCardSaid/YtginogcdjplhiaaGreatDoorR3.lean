/- The reference's numbers: number, Neg, Add, Cmp walked. -/
import Derived.Test.YtginogcdjplhiaaGreatDoorR2
import Derived.Test.YtginogcdjplhiaaGreatDoorQX
set_option linter.unusedVariables false
set_option linter.unusedSimpArgs false
namespace Go.Proofs.YtginogcdjplhiaaGreatDoor.Ten
open Go.RowKit Go.Proofs.YtginogcdjplhiaaGreatDoor.Big
attribute [local go_sem ↓] Go.wp_at_zero Go.wp_at_succ

def NumV (w : World) (v : Value) (z : Int) : Prop := ∃ A n c, v = .agg #[.int .i64 z.sign, .slice A n c] ∧ Ten w (.slice A n c) n z.natAbs ∧ TrT n z.natAbs
theorem NumV.ext {w w' : World} {v : Value} {z : Int} (h : NumV w v z) (k : Ext w w') : NumV w' v z := by
  obtain ⟨A, n, c, rfl, h1, h2⟩ := h
  exact ⟨A, n, c, rfl, h1.ext k, h2⟩
theorem NumV.shape {w : World} {v : Value} {z : Int} (h : NumV w v z) : ∃ s A n c, v = .agg #[.int .i64 s, .slice A n c] ∧ s = z.sign := by
  obtain ⟨A, n, c, rfl, _⟩ := h
  exact ⟨_, A, n, c, rfl, rfl⟩
def NPost (w : World) (z : Int) (e : Ending) (w' : World) : Prop := ∃ v, e = .returned v ∧ NumV w' v z ∧ Ext w w'
theorem numNe : (33 : Nat) ≠ 3 := by decide
theorem NumV.far {w : World} {b : Nat} {E : TypeId} {cs : Array Value} {v : Value} {z : Int} (h : NumV w v z) (hb : Box w b E cs) (hE : E ≠ 3) (i : Nat) (u : Value) : NumV (w.setCell ⟨b, i, none⟩ u) v z := by
  obtain ⟨A, n, c, rfl, h1, h2⟩ := h
  exact ⟨A, n, c, rfl, h1.far hb hE i u, h2⟩
theorem NumV.put {w : World} {b : Nat} {s s0 : Int} {A A0 : Option Addr} {n c n0 c0 : Nat} {z : Int} (h : NumV w (.agg #[.int .i64 s, .slice A n c]) z) (hb : Box w b 33 #[.int .i64 s0, .slice A0 n0 c0]) :
    NumV ((w.setCell ⟨b, 0, none⟩ (.int .i64 s)).setCell ⟨b, 1, none⟩ (.slice A n c)) (.agg #[.int .i64 s, .slice A n c]) z ∧
      ((w.setCell ⟨b, 0, none⟩ (.int .i64 s)).setCell ⟨b, 1, none⟩ (.slice A n c)).cell? ⟨b, 0, none⟩ = some (.int .i64 s) ∧
      ((w.setCell ⟨b, 0, none⟩ (.int .i64 s)).setCell ⟨b, 1, none⟩ (.slice A n c)).cell? ⟨b, 1, none⟩ = some (.slice A n c) := by
  have hb1 : Box (w.setCell ⟨b, 0, none⟩ (.int .i64 s)) b 33 #[.int .i64 s, .slice A0 n0 c0] := hb.set 0 _
  have hb2 : Box ((w.setCell ⟨b, 0, none⟩ (.int .i64 s)).setCell ⟨b, 1, none⟩ (.slice A n c)) b 33 #[.int .i64 s, .slice A n c] := hb1.set 1 _
  exact ⟨(h.far hb numNe 0 _).far hb1 numNe 1 _, hb2.c0, hb2.c1⟩
theorem Ten.swap {w : World} {cs cs' : Array Value} {E : TypeId} {v : Value} {n V : Nat} (h : Ten (w.alloc (.cells cs E)) v n V) (hE : E ≠ 3) : Ten (w.alloc (.cells cs' E)) v n V := by
  obtain ⟨A, c, rfl, h1, h2, h3, h4⟩ := h
  refine ⟨A, c, rfl, h1, h2, h3, fun hn => ?_⟩
  obtain ⟨b, off, cs0, fz, rfl, hb, hc⟩ := h4 hn
  have hlt : b < (w.alloc (.cells cs E)).heap.size := heap_lt hb
  have hsz : (w.alloc (.cells cs E)).heap.size = w.heap.size + 1 := by simp
  rcases Nat.lt_or_ge b w.heap.size with hb' | hb'
  · refine ⟨b, off, cs0, fz, rfl, ?_, fun j hj => ?_⟩
    · rw [heap_alloc_old w _ hb'] at hb ⊢; exact hb
    · have hcj := hc j hj
      rw [World.cell?_alloc_lt _ _ _ hb'] at hcj ⊢; exact hcj
  · exfalso
    obtain rfl : b = w.heap.size := by omega
    rw [heap_alloc_new w _] at hb
    injection hb with h6
    injection h6 with _ h7 _
    exact hE h7

set_option maxHeartbeats 1000000 in
theorem number_any (s : Int) (x : Value) (n V : Nat) (w : World) (z : Int) (hx : Ten w x n V) (hz : z.natAbs = V) (hs : 0 < V → z.sign = s) :
    Calls Tryz.prog 57 #[.int .i64 s, x] w (NPost w z) := by
  obtain ⟨A, c, rfl⟩ := hx.form
  go_enter Tryz.func57, Tryz.ntmps57
  go_wp2_with fail
  refine (trim_any _ _ _ _ _ (hx.ext ((Ext.refl w).alloc _))).mono ?_
  rintro e w' ⟨v, n', rfl, hd, ht, rfl⟩
  obtain ⟨A2, c2, rfl⟩ := hd.form
  have hpos := ht.pos_iff hd.inj.2.2.2.1
  by_cases h0 : n' = 0
  · have hV : V = 0 := by omega
    have hz0 : z = 0 := by omega
    subst hz0 h0
    have HS := Lib.hid hs
    clear hs hpos hV hz
    go_wp2_with fail
    refine bodyPost_ret (v := .agg #[.int .i64 0, .slice none 0 0]) (by simp [results, Tryz.results57, go_sem]) rfl ?_
    exact ⟨_, rfl, ⟨none, 0, 0, rfl, Ten.nil _, .inl rfl⟩, (Ext.refl w).alloc _⟩
  · have e1 : ((n' : Int) == 0) = false := by simp; omega
    have hzs := hs (by omega)
    have HZ := Lib.hid hz
    have HS := Lib.hid hzs
    clear hs hzs hpos hz h0
    go_wp2_with fail
    refine bodyPost_ret (v := .agg #[.int .i64 s, .slice A2 n' c2]) (by simp [results, Tryz.results57, go_sem]) rfl ?_
    refine ⟨_, rfl, ⟨A2, n', c2, by rw [HS.out], ?_, ?_⟩, (Ext.refl w).alloc _⟩
    · rw [HZ.out]; exact hd.swap numNe
    · rw [HZ.out]; exact ht

set_option maxHeartbeats 1000000 in
theorem Neg_any (x : Value) (z : Int) (w : World) (hx : NumV w x z) : Calls Tryz.prog 42 #[x] w (NPost w (-z)) := by
  obtain ⟨A, n, c, rfl, h1, h2⟩ := hx
  have hr := sign_cases z
  obtain ⟨s, hs⟩ : ∃ s, s = z.sign := ⟨_, rfl⟩
  rw [← hs]
  have hw : IntKind.i64.wrap (-s) = -s := IntWalk.i64_in _ (by rw [hs]; rcases hr with ⟨_, h⟩ | ⟨_, h⟩ | ⟨_, h⟩ <;> rw [h] <;> decide)
  have hsn : (-z).sign = -s := by rw [hs, Int.sign_neg]
  have HS := Lib.hid hsn
  clear hs hr hsn
  go_enter Tryz.func42, Tryz.ntmps42
  go_wp2_with fail
  refine bodyPost_ret (v := .agg #[.int .i64 (-s), .slice A n c]) (by simp [results, Tryz.results42, go_sem]) rfl ?_
  refine ⟨_, rfl, ⟨A, n, c, by rw [HS.out], ?_, by rw [Int.natAbs_neg]; exact h2⟩, ((Ext.refl w).alloc _).alloc _⟩
  rw [Int.natAbs_neg]
  exact h1.ext (((Ext.refl w).alloc _).alloc _)

theorem sign_add1 {x y : Int} (h : x.sign = y.sign) : (x + y).natAbs = x.natAbs + y.natAbs ∧ (x + y).sign = x.sign := by
  rcases sign_cases x with ⟨a, b⟩ | ⟨a, b⟩ | ⟨a, b⟩ <;> rcases sign_cases y with ⟨c, d⟩ | ⟨c, d⟩ | ⟨c, d⟩ <;> rw [b, d] at h <;> (try omega)
  · exact ⟨by omega, by rw [b]; exact Int.sign_eq_neg_one_of_neg (by omega)⟩
  · subst a c; exact ⟨rfl, rfl⟩
  · exact ⟨by omega, by rw [b]; exact Int.sign_eq_one_of_pos (by omega)⟩
theorem sign_add2 {x y : Int} (hx : x ≠ 0) (hy : y ≠ 0) (h : x.sign ≠ y.sign) (hl : y.natAbs ≤ x.natAbs) : (x + y).natAbs = x.natAbs - y.natAbs ∧ (0 < x.natAbs - y.natAbs → (x + y).sign = x.sign) := by
  rcases sign_cases x with ⟨a, b⟩ | ⟨a, b⟩ | ⟨a, b⟩ <;> rcases sign_cases y with ⟨c, d⟩ | ⟨c, d⟩ | ⟨c, d⟩ <;> rw [b, d] at h <;> (try omega)
  · exact ⟨by omega, fun h0 => by rw [b]; exact Int.sign_eq_neg_one_of_neg (by omega)⟩
  · exact ⟨by omega, fun h0 => by rw [b]; exact Int.sign_eq_one_of_pos (by omega)⟩
theorem sign_beq {x : Int} (h : x ≠ 0) : (x.sign == 0) = false := by simpa using h

set_option maxHeartbeats 4000000 in
theorem Add_any (x y : Value) (X Y : Int) (L : Nat) (w : World) (hx : NumV w x X) (hy : NumV w y Y) (bx : X.natAbs < pt L) (bY : Y.natAbs < pt L) (hL : L ≤ 1000000000000) :
    Calls Tryz.prog 41 #[x, y] w (NPost w (X + Y)) := by
  obtain ⟨A1, n1, c1, rfl, hd1, ht1⟩ := hx
  obtain ⟨A2, n2, c2, rfl, hd2, ht2⟩ := hy
  have l1 := ht1.le bx
  have l2 := ht2.le bY
  obtain ⟨sx, hsx⟩ : ∃ s, s = X.sign := ⟨_, rfl⟩
  obtain ⟨sy, hsy⟩ : ∃ s, s = Y.sign := ⟨_, rfl⟩
  rw [← hsx, ← hsy]
  by_cases hX0 : X = 0
  · have e0 : sx = 0 := by rw [hsx, hX0]; rfl
    have HR := Lib.hid (show X + Y = Y by omega)
    have HY := Lib.hid hsy
    clear hX0 hsx hsy
    go_enter Tryz.func41, Tryz.ntmps41
    go_wp2_with fail
    refine bodyPost_ret (v := .agg #[.int .i64 sy, .slice A2 n2 c2]) (by simp [results, Tryz.results41, go_sem]) rfl ?_
    refine ⟨_, rfl, ⟨A2, n2, c2, by rw [HR.out, HY.out], ?_, ?_⟩, (((Ext.refl w).alloc _).alloc _).alloc _⟩
    · rw [HR.out]; exact hd2.ext ((((Ext.refl w).alloc _).alloc _).alloc _)
    · rw [HR.out]; exact ht2
  by_cases hY0 : Y = 0
  · have e0 : sy = 0 := by rw [hsy, hY0]; rfl
    have e1 : (sx == 0) = false := by rw [hsx]; exact sign_beq hX0
    have HR := Lib.hid (show X + Y = X by omega)
    have HX := Lib.hid hsx
    clear hX0 hY0 hsx hsy
    go_enter Tryz.func41, Tryz.ntmps41
    go_wp2_with fail
    refine bodyPost_ret (v := .agg #[.int .i64 sx, .slice A1 n1 c1]) (by simp [results, Tryz.results41, go_sem]) rfl ?_
    refine ⟨_, rfl, ⟨A1, n1, c1, by rw [HR.out, HX.out], ?_, ?_⟩, (((Ext.refl w).alloc _).alloc _).alloc _⟩
    · rw [HR.out]; exact hd1.ext ((((Ext.refl w).alloc _).alloc _).alloc _)
    · rw [HR.out]; exact ht1
  have e1 : (sx == 0) = false := by rw [hsx]; exact sign_beq hX0
  have e2 : (sy == 0) = false := by rw [hsy]; exact sign_beq hY0
  by_cases hs : sx = sy
  · subst hs
    obtain ⟨g1, g2⟩ := sign_add1 (hsx.symm.trans hsy)
    have g2 : 0 < X.natAbs + Y.natAbs → (X + Y).sign = sx := fun _ => g2.trans hsx.symm
    have G1 := Lib.hid g1
    have G2 := Lib.hid g2
    clear hX0 hY0 hsx hsy g1 g2
    go_enter Tryz.func41, Tryz.ntmps41
    go_wp2_with fail
    obtain ⟨B0, B1, B2, hE0⟩ := boxes3 w 33 #[.int .i64 sx, .slice A1 n1 c1] #[.int .i64 sx, .slice A2 n2 c2] #[.int .i64 0, .slice none 0 0]
    generalize (((w.alloc (.cells #[.int .i64 sx, .slice A1 n1 c1] 33)).alloc (.cells #[.int .i64 sx, .slice A2 n2 c2] 33)).alloc (.cells #[.int .i64 0, .slice none 0 0] 33)) = W0 at *
    have k00 := KE.c0 (w := w) B0 (show w.heap.size ∉ [w.heap.size + 1 + 1] by simp; omega)
    have k01 := KE.c1 (w := w) B0 (show w.heap.size ∉ [w.heap.size + 1 + 1] by simp; omega)
    have k10 := KE.c0 (w := w) B1 (show w.heap.size + 1 ∉ [w.heap.size + 1 + 1] by simp)
    have k11 := KE.c1 (w := w) B1 (show w.heap.size + 1 ∉ [w.heap.size + 1 + 1] by simp)
    have ks := KE.start (R := [w.heap.size + 1 + 1]) hE0 (by simp; omega)
    go_region_held3 (fun w' => KE [w.heap.size + 1 + 1] w W0 w') ((repeat (first | assumption | apply KE.drew | apply KE.drewN | (refine KE.set ?_ (by simp) _) | (refine KE.step ?_ (by assumption))))) (first | (go_at_call 65; refine (add_any _ _ _ _ _ _ _ _ _ (hd1.ext (KE.ext (by assumption))) (hd2.ext (KE.ext (by assumption))) (by omega) (by omega)).mono ?_; rintro e w1 ⟨v, n', rfl, hd, hxA⟩) | (go_at_call 57; refine (number_any _ _ _ _ _ (X + Y) hd G1.out G2.out).mono ?_; rintro e w2 ⟨v2, rfl, hb2, hxB⟩; obtain ⟨s3, A3, n3, c3, rfl, -⟩ := hb2.shape; have b2 := (B2.drew.ext hxA).ext hxB; have q0 := b2.c0; have q1 := b2.c1; have f0 := b2.frozen 0; have f1 := b2.frozen 1))
    obtain ⟨p1, p2, p3⟩ := hb2.put b2
    go_wp2_with fail
    refine bodyPost_ret (v := .agg #[.int .i64 s3, .slice A3 n3 c3]) (by simp [results, Tryz.results41, go_sem, p2, p3]) rfl ?_
    exact ⟨_, rfl, p1, KE.ext (by assumption)⟩
  have e3 : (sx == sy) = false := by simpa using hs
  have hne : X.sign ≠ Y.sign := by rw [← hsx, ← hsy]; exact hs
  by_cases hle : Y.natAbs ≤ X.natAbs
  · obtain ⟨g1, g2⟩ := sign_add2 hX0 hY0 hne hle
    have g2 : 0 < X.natAbs - Y.natAbs → (X + Y).sign = sx := fun h => (g2 h).trans hsx.symm
    have hc : decide (cmpI X.natAbs Y.natAbs < 0) = false := by have := cmpI_nonneg.2 hle; simp; omega
    obtain ⟨q, hq⟩ : ∃ q, q = cmpI X.natAbs Y.natAbs := ⟨_, rfl⟩
    rw [← hq] at hc
    have G1 := Lib.hid g1
    have G2 := Lib.hid g2
    have HL := Lib.hid hle
    clear hX0 hY0 hsx hsy g1 g2 hs hne hle
    go_enter Tryz.func41, Tryz.ntmps41
    go_wp2_with fail
    obtain ⟨B0, B1, B2, hE0⟩ := boxes3 w 33 #[.int .i64 sx, .slice A1 n1 c1] #[.int .i64 sy, .slice A2 n2 c2] #[.int .i64 0, .slice none 0 0]
    generalize (((w.alloc (.cells #[.int .i64 sx, .slice A1 n1 c1] 33)).alloc (.cells #[.int .i64 sy, .slice A2 n2 c2] 33)).alloc (.cells #[.int .i64 0, .slice none 0 0] 33)) = W0 at *
    have k00 := KE.c0 (w := w) B0 (show w.heap.size ∉ [w.heap.size + 1 + 1] by simp; omega)
    have k01 := KE.c1 (w := w) B0 (show w.heap.size ∉ [w.heap.size + 1 + 1] by simp; omega)
    have k10 := KE.c0 (w := w) B1 (show w.heap.size + 1 ∉ [w.heap.size + 1 + 1] by simp)
    have k11 := KE.c1 (w := w) B1 (show w.heap.size + 1 ∉ [w.heap.size + 1 + 1] by simp)
    have ks := KE.start (R := [w.heap.size + 1 + 1]) hE0 (by simp; omega)
    refine (compare_any _ _ _ _ _ _ _ _ _ (hd1.ext hE0) (hd2.ext hE0)).mono ?_
    rintro e w1 ⟨rfl, rfl⟩
    rw [← hq]
    clear hq
    go_wp2_with fail
    go_region_held3 (fun w' => KE [w.heap.size + 1 + 1] w W0 w') ((repeat (first | assumption | apply KE.drew | apply KE.drewN | (refine KE.set ?_ (by simp) _) | (refine KE.step ?_ (by assumption))))) (first | (go_at_call 67; refine (sub_any _ _ _ _ _ _ _ _ _ (hd1.ext (KE.ext (by assumption))) (hd2.ext (KE.ext (by assumption))) (by omega) HL.out).mono ?_; rintro e w1 ⟨v, rfl, hd, hxA⟩) | (go_at_call 57; refine (number_any _ _ _ _ _ (X + Y) hd G1.out G2.out).mono ?_; rintro e w2 ⟨v2, rfl, hb2, hxB⟩; obtain ⟨s3, A3, n3, c3, rfl, -⟩ := hb2.shape; have b2 := (B2.drew.ext hxA).ext hxB; have q0 := b2.c0; have q1 := b2.c1; have f0 := b2.frozen 0; have f1 := b2.frozen 1))
    obtain ⟨p1, p2, p3⟩ := hb2.put b2
    go_wp2_with fail
    refine bodyPost_ret (v := .agg #[.int .i64 s3, .slice A3 n3 c3]) (by simp [results, Tryz.results41, go_sem, p2, p3]) rfl ?_
    exact ⟨_, rfl, p1, KE.ext (by assumption)⟩
  · have hle : X.natAbs ≤ Y.natAbs := by omega
    obtain ⟨g1, g2⟩ := sign_add2 hY0 hX0 (Ne.symm hne) hle
    have g2 : 0 < Y.natAbs - X.natAbs → (X + Y).sign = sy := fun h => by rw [Int.add_comm]; exact (g2 h).trans hsy.symm
    have g1 : (X + Y).natAbs = Y.natAbs - X.natAbs := by rw [Int.add_comm]; exact g1
    have hcn : ¬ 0 ≤ cmpI X.natAbs Y.natAbs := fun h => by have := cmpI_nonneg.1 h; omega
    have hc : decide (cmpI X.natAbs Y.natAbs < 0) = true := by simp; omega
    clear hcn
    obtain ⟨q, hq⟩ : ∃ q, q = cmpI X.natAbs Y.natAbs := ⟨_, rfl⟩
    rw [← hq] at hc
    have G1 := Lib.hid g1
    have G2 := Lib.hid g2
    have HL := Lib.hid hle
    clear hX0 hY0 hsx hsy g1 g2 hs hne hle
    go_enter Tryz.func41, Tryz.ntmps41
    go_wp2_with fail
    obtain ⟨B0, B1, B2, hE0⟩ := boxes3 w 33 #[.int .i64 sx, .slice A1 n1 c1] #[.int .i64 sy, .slice A2 n2 c2] #[.int .i64 0, .slice none 0 0]
    generalize (((w.alloc (.cells #[.int .i64 sx, .slice A1 n1 c1] 33)).alloc (.cells #[.int .i64 sy, .slice A2 n2 c2] 33)).alloc (.cells #[.int .i64 0, .slice none 0 0] 33)) = W0 at *
    have k00 := KE.c0 (w := w) B0 (show w.heap.size ∉ [w.heap.size + 1 + 1] by simp; omega)
    have k01 := KE.c1 (w := w) B0 (show w.heap.size ∉ [w.heap.size + 1 + 1] by simp; omega)
    have k10 := KE.c0 (w := w) B1 (show w.heap.size + 1 ∉ [w.heap.size + 1 + 1] by simp)
    have k11 := KE.c1 (w := w) B1 (show w.heap.size + 1 ∉ [w.heap.size + 1 + 1] by simp)
    have ks := KE.start (R := [w.heap.size + 1 + 1]) hE0 (by simp; omega)
    refine (compare_any _ _ _ _ _ _ _ _ _ (hd1.ext hE0) (hd2.ext hE0)).mono ?_
    rintro e w1 ⟨rfl, rfl⟩
    rw [← hq]
    clear hq
    go_wp2_with fail
    go_region_held3 (fun w' => KE [w.heap.size + 1 + 1] w W0 w') ((repeat (first | assumption | apply KE.drew | apply KE.drewN | (refine KE.set ?_ (by simp) _) | (refine KE.step ?_ (by assumption))))) (first | (go_at_call 67; refine (sub_any _ _ _ _ _ _ _ _ _ (hd2.ext (KE.ext (by assumption))) (hd1.ext (KE.ext (by assumption))) (by omega) HL.out).mono ?_; rintro e w1 ⟨v, rfl, hd, hxA⟩) | (go_at_call 57; refine (number_any _ _ _ _ _ (X + Y) hd G1.out G2.out).mono ?_; rintro e w2 ⟨v2, rfl, hb2, hxB⟩; obtain ⟨s3, A3, n3, c3, rfl, -⟩ := hb2.shape; have b2 := (B2.drew.ext hxA).ext hxB; have q0 := b2.c0; have q1 := b2.c1; have f0 := b2.frozen 0; have f1 := b2.frozen 1))
    obtain ⟨p1, p2, p3⟩ := hb2.put b2
    go_wp2_with fail
    refine bodyPost_ret (v := .agg #[.int .i64 s3, .slice A3 n3 c3]) (by simp [results, Tryz.results41, go_sem, p2, p3]) rfl ?_
    exact ⟨_, rfl, p1, KE.ext (by assumption)⟩

theorem field0 (w : World) (s : Int) (A : Option Addr) (m d : Nat) : (Instr.field 33 (.agg #[.int .i64 s, .slice A m d]) 0).run Tryz.prog w = .ok (.int .i64 s) w := by kernel_rfl
set_option maxRecDepth 100000 in
set_option maxHeartbeats 4000000 in
theorem Cmp_any (x y : Value) (X Y : Int) (L : Nat) (w : World) (hx : NumV w x X) (hy : NumV w y Y) (bx : X.natAbs < pt L) (bY : Y.natAbs < pt L) (hL : L ≤ 1000000000000) :
    Calls Tryz.prog 38 #[x, y] w (IntPost w (cmpZ X Y)) := by
  have hcm : cmpZ X Y = (X + -Y).sign := by
    unfold cmpZ
    rcases Int.lt_trichotomy X Y with h | h | h
    · rw [if_pos h, Int.sign_eq_neg_one_of_neg (by omega)]
    · subst h; simp; rw [Int.add_right_neg]; rfl
    · rw [if_neg (by omega), if_pos h, Int.sign_eq_one_of_pos (by omega)]
  rw [hcm]
  clear hcm
  have hx' := hx
  have hy' := hy
  obtain ⟨A1, n1, c1, rfl, hd1, ht1⟩ := hx
  obtain ⟨A2, n2, c2, rfl, hd2, ht2⟩ := hy
  obtain ⟨sx, hsx⟩ : ∃ s, s = X.sign := ⟨_, rfl⟩
  obtain ⟨sy, hsy⟩ : ∃ s, s = Y.sign := ⟨_, rfl⟩
  rw [← hsx] at hx' ⊢
  rw [← hsy] at hy' ⊢
  clear hsx hsy
  go_enter Tryz.func38, Tryz.ntmps38
  go_wp2_with fail
  obtain ⟨B0, B1, hE0⟩ := boxes2 w 33 #[.int .i64 sx, .slice A1 n1 c1] #[.int .i64 sy, .slice A2 n2 c2]
  have hx' := hx'.ext hE0
  have hy' := hy'.ext hE0
  generalize ((w.alloc (.cells #[.int .i64 sx, .slice A1 n1 c1] 33)).alloc (.cells #[.int .i64 sy, .slice A2 n2 c2] 33)) = W0 at *
  have k0 : ∀ w', Later W0 w' → w'.cell? ⟨w.heap.size, 0, none⟩ = some (.int .i64 sx) := fun w' h => (B0.ext h).c0
  have k1 : ∀ w', Later W0 w' → w'.cell? ⟨w.heap.size, 1, none⟩ = some (.slice A1 n1 c1) := fun w' h => (B0.ext h).c1
  have k2 : ∀ w', Later W0 w' → w'.cell? ⟨w.heap.size + 1, 0, none⟩ = some (.int .i64 sy) := fun w' h => (B1.ext h).c0
  have k3 : ∀ w', Later W0 w' → w'.cell? ⟨w.heap.size + 1, 1, none⟩ = some (.slice A2 n2 c2) := fun w' h => (B1.ext h).c1
  have ks := Later.refl W0
  have bYn : (-Y).natAbs < pt L := by rw [Int.natAbs_neg]; exact bY
  clear B0 B1 hd1 ht1 hd2 ht2
  have hfd := field0
  go_region_held3 (fun w' => Later W0 w') ((repeat (first | assumption | apply Later.drew | apply Later.drewN | apply Later.alloc | (refine Later.step ?_ (by assumption))))) (first
    | (go_at_call 42; (refine (Neg_any _ Y _ (hy'.ext (Ext.refl _).drew)).mono ?_); rintro e w1 ⟨v1, rfl, h1, hx1⟩; obtain ⟨s1, A1', m1, d1, rfl, -⟩ := h1.shape)
    | (go_at_call 41; (refine (Add_any _ _ X (-Y) L _ (hx'.ext ((Ext.refl _).drew.trans hx1)) h1 bx bYn hL).mono ?_); rintro e w2 ⟨v2, rfl, h2, hx2⟩; obtain ⟨s2, A2', m2, d2, rfl, hs2⟩ := h2.shape; have HS2 := Lib.hid hs2; clear hs2)
    )
  all_goals go_wp2_with fail
  all_goals go_ret
  all_goals exact ⟨by rw [HS2.out]; rfl, hE0.trans (show Later W0 _ by first | assumption | (apply Later.drew; assumption) | (apply Later.drewN; assumption))⟩
end Go.Proofs.YtginogcdjplhiaaGreatDoor.Ten
