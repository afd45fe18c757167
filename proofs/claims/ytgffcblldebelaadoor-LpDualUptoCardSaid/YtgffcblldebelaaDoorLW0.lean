/- Walk: awake (the examples of the chapter). Walks: fits; what all laws begin with. -/
import Derived.Test.YtgffcblldebelaaDoorLV5
import Derived.Test.YtgffcblldebelaaDoorLN3
set_option linter.unusedVariables false
set_option linter.unusedSimpArgs false
namespace Go.Proofs.YtgffcblldebelaaDoor.Lp
open Go.RowKit Go.Proofs.YtgffcblldebelaaDoor.Big Go.Proofs.YtgffcblldebelaaDoor.Rt

theorem iRow2 {w : World} {b : Nat} {E : TypeId} {x y : Int} (B : Box w b E #[.int .i32 x, .int .i32 y]) : Row w (.slice (some ⟨b, 0, none⟩) 2 2) (wV [x, y]) := by
  refine ⟨_, 2, rfl, by simp [wV], by omega, fun _ => ⟨b, 0, rfl, fun j u hj => ?_⟩⟩
  rw [Nat.zero_add, B.cell j, ← hj]
  exact List.getElem?_toArray
theorem mem1 (w : World) : IPV ((((w.alloc (.cells #[.int .i32 3, .int .i32 2] 21)).alloc (.cells #[.int .i32 1, .int .i32 1] 21)).alloc (.cells #[.int .i32 1, .int .i32 3] 21)).alloc
      (.cells #[.slice (some ⟨w.heap.size + 1, 0, none⟩) 2 2, .int .u8 1, .int .i32 4, .slice (some ⟨w.heap.size + 1 + 1, 0, none⟩) 2 2, .int .u8 1, .int .i32 6] 72))
    (.agg #[.slice (some ⟨w.heap.size, 0, none⟩) 2 2, .slice (some ⟨w.heap.size + 1 + 1 + 1, 0, none⟩) 2 2, .int .u8 0]) ip1 ∧
    Ext w ((((w.alloc (.cells #[.int .i32 3, .int .i32 2] 21)).alloc (.cells #[.int .i32 1, .int .i32 1] 21)).alloc (.cells #[.int .i32 1, .int .i32 3] 21)).alloc
      (.cells #[.slice (some ⟨w.heap.size + 1, 0, none⟩) 2 2, .int .u8 1, .int .i32 4, .slice (some ⟨w.heap.size + 1 + 1, 0, none⟩) 2 2, .int .u8 1, .int .i32 6] 72)) := by
  obtain ⟨w1, h1⟩ : ∃ x, x = w.alloc (.cells #[.int .i32 3, .int .i32 2] 21) := ⟨_, rfl⟩
  have B1 := Box.new w 21 #[.int .i32 3, .int .i32 2]
  have e1 : Ext w w1 := by rw [h1]; exact (Ext.refl w).alloc _
  have s1 : w1.heap.size = w.heap.size + 1 := by rw [h1]; simp
  rw [← h1] at B1 ⊢
  obtain ⟨w2, h2⟩ : ∃ x, x = w1.alloc (.cells #[.int .i32 1, .int .i32 1] 21) := ⟨_, rfl⟩
  have B2 := Box.new w1 21 #[.int .i32 1, .int .i32 1]
  have e2 : Ext w1 w2 := by rw [h2]; exact (Ext.refl w1).alloc _
  have s2 : w2.heap.size = w.heap.size + 1 + 1 := by rw [h2]; simp [s1]
  rw [s1, ← h2] at B2
  rw [← h2]
  obtain ⟨w3, h3⟩ : ∃ x, x = w2.alloc (.cells #[.int .i32 1, .int .i32 3] 21) := ⟨_, rfl⟩
  have B3 := Box.new w2 21 #[.int .i32 1, .int .i32 3]
  have e3 : Ext w2 w3 := by rw [h3]; exact (Ext.refl w2).alloc _
  have s3 : w3.heap.size = w.heap.size + 1 + 1 + 1 := by rw [h3]; simp [s2]
  rw [s2, ← h3] at B3
  rw [← h3]
  obtain ⟨w4, h4⟩ : ∃ x, x = w3.alloc (.cells #[.slice (some ⟨w.heap.size + 1, 0, none⟩) 2 2, .int .u8 1, .int .i32 4, .slice (some ⟨w.heap.size + 1 + 1, 0, none⟩) 2 2, .int .u8 1, .int .i32 6] 72) := ⟨_, rfl⟩
  have B4 := Box.new w3 72 #[.slice (some ⟨w.heap.size + 1, 0, none⟩) 2 2, .int .u8 1, .int .i32 4, .slice (some ⟨w.heap.size + 1 + 1, 0, none⟩) 2 2, .int .u8 1, .int .i32 6]
  have e4 : Ext w3 w4 := by rw [h4]; exact (Ext.refl w3).alloc _
  rw [s3, ← h4] at B4
  rw [← h4]
  refine ⟨⟨_, 2, _, 2, rfl, iRow2 (((B1.ext e2).ext e3).ext e4), by decide, by omega, fun _ => ⟨_, 0, rfl, fun j r hj => ?_⟩⟩, ((e1.trans e2).trans e3).trans e4⟩
  rcases j with _ | _ | j
  · have hj : some (⟨[1, 1], 1, 4⟩ : IRow) = some r := hj
    obtain rfl := Option.some.inj hj
    exact ⟨_, 2, B4.cell 0, B4.cell 1, B4.cell 2, iRow2 ((B2.ext e3).ext e4)⟩
  · have hj : some (⟨[1, 3], 1, 6⟩ : IRow) = some r := hj
    obtain rfl := Option.some.inj hj
    exact ⟨_, 2, B4.cell 3, B4.cell 4, B4.cell 5, iRow2 (B3.ext e4)⟩
  · have hj : none = some r := hj
    cases hj
theorem mem2 (w : World) : IPV (((w.alloc (.cells #[.int .i32 0, .int .i32 0] 21)).alloc (.cells #[.int .i32 1, .int .i32 1] 21)).alloc (.cells #[.slice (some ⟨w.heap.size + 1, 0, none⟩) 2 2, .int .u8 1, .int .i32 (-1)] 72))
    (.agg #[.slice (some ⟨w.heap.size, 0, none⟩) 2 2, .slice (some ⟨w.heap.size + 1 + 1, 0, none⟩) 1 1, .int .u8 0]) ip2 ∧
    Ext w (((w.alloc (.cells #[.int .i32 0, .int .i32 0] 21)).alloc (.cells #[.int .i32 1, .int .i32 1] 21)).alloc (.cells #[.slice (some ⟨w.heap.size + 1, 0, none⟩) 2 2, .int .u8 1, .int .i32 (-1)] 72)) := by
  obtain ⟨w1, h1⟩ : ∃ x, x = w.alloc (.cells #[.int .i32 0, .int .i32 0] 21) := ⟨_, rfl⟩
  have B1 := Box.new w 21 #[.int .i32 0, .int .i32 0]
  have e1 : Ext w w1 := by rw [h1]; exact (Ext.refl w).alloc _
  have s1 : w1.heap.size = w.heap.size + 1 := by rw [h1]; simp
  rw [← h1] at B1 ⊢
  obtain ⟨w2, h2⟩ : ∃ x, x = w1.alloc (.cells #[.int .i32 1, .int .i32 1] 21) := ⟨_, rfl⟩
  have B2 := Box.new w1 21 #[.int .i32 1, .int .i32 1]
  have e2 : Ext w1 w2 := by rw [h2]; exact (Ext.refl w1).alloc _
  have s2 : w2.heap.size = w.heap.size + 1 + 1 := by rw [h2]; simp [s1]
  rw [s1, ← h2] at B2
  rw [← h2]
  obtain ⟨w4, h4⟩ : ∃ x, x = w2.alloc (.cells #[.slice (some ⟨w.heap.size + 1, 0, none⟩) 2 2, .int .u8 1, .int .i32 (-1)] 72) := ⟨_, rfl⟩
  have B4 := Box.new w2 72 #[.slice (some ⟨w.heap.size + 1, 0, none⟩) 2 2, .int .u8 1, .int .i32 (-1)]
  have e4 : Ext w2 w4 := by rw [h4]; exact (Ext.refl w2).alloc _
  rw [s2, ← h4] at B4
  rw [← h4]
  refine ⟨⟨_, 2, _, 1, rfl, iRow2 ((B1.ext e2).ext e4), by decide, by omega, fun _ => ⟨_, 0, rfl, fun j r hj => ?_⟩⟩, (e1.trans e2).trans e4⟩
  rcases j with _ | j
  · have hj : some (⟨[1, 1], 1, -1⟩ : IRow) = some r := hj
    obtain rfl := Option.some.inj hj
    exact ⟨_, 2, B4.cell 0, B4.cell 1, B4.cell 2, iRow2 (B2.ext e4)⟩
  · have hj : none = some r := hj
    cases hj
theorem res1 {k : Int} {z : Rat} {nx ny : Nat} {xs ys : Nat → Rat} (h : Res ip1.pl.toP k z nx xs ny ys) : k = 0 ∧ z = 12 ∧ nx = 2 ∧ xs 0 = 4 ∧ xs 1 = 0 := by
  obtain ⟨x, y, hs, h0, h1⟩ := ip1_sol
  rcases h with ⟨a, _⟩ | ⟨_, b, c, d⟩
  · rw [ip1_valid] at a; cases a
  · rw [hs] at b c d
    rcases d with ⟨d1, d2, d3, d4⟩ | ⟨d1, _⟩
    · injection d4 with d4 d5 d6
      subst d5
      exact ⟨b, c, d2, h0, h1⟩
    · exact absurd b d1
set_option maxHeartbeats 4000000 in
set_option maxRecDepth 100000 in
theorem awake_b (w : World) (htab : TabOK w) : Calls Tryd.prog 14 #[] w (fun e w' => e = .returned (.bool true) ∧ Ext w w') := by
  go_enter Tryd.func14, Tryd.ntmps14
  go_wp2_with fail
  obtain ⟨m1, hE1⟩ := mem1 w
  refine (Make_b _ ip1 _ m1 ip1_ok).mono ?_
  clear m1
  rintro e w1 ⟨v1, a, rfl, hM, hx1⟩
  have hE1 := hE1.trans hx1
  clear hx1
  have hP := hM.prob
  have hv := hM.val
  clear hM
  subst hv
  go_wp2_with fail
  refine (Solve_l _ _ 16000000 _ hP (fun hv => IP.bnd ip1_ok (by decide) (by decide) hv)).mono ?_
  rintro e w2 ⟨q, A, n, c, q', A', n', c', Ax, nx, cx, Ay, ny, cy, k, z, xs, ys, rfl, hz, hX, hY, hbx, hby, hres, hx2⟩
  obtain ⟨rfl, rfl, rfl, x0, x1⟩ := res1 hres
  have hE2 := hE1.trans hx2
  clear hP hE1 hx2 hres hY hby
  go_upto_region 2 with fail
  have SB := Box.new w2 39 #[.bool q, .slice A n c, .bool q', .slice A' n' c', .slice Ax 2 cx, .slice Ay ny cy]
  have hxs : Ext w2 (w2.alloc (.cells #[.bool q, .slice A n c, .bool q', .slice A' n' c', .slice Ax 2 cx, .slice Ay ny cy] 39)) := (Ext.refl w2).alloc _
  generalize (w2.alloc (.cells #[.bool q, .slice A n c, .bool q', .slice A' n' c', .slice Ax 2 cx, .slice Ay ny cy] 39)) = V at *
  have hE3 := hE2.trans hxs
  have hz := hz.ext hxs
  have hX := hX.ext hxs
  clear hE2 hxs
  obtain ⟨sb, hsb⟩ : ∃ x, x = w2.heap.size := ⟨_, rfl⟩
  rw [← hsb] at SB ⊢
  clear hsb
  go_wp2_with fail
  obtain ⟨m2, hE4⟩ := mem2 V
  refine (Make_b _ ip2 _ m2 ip2_ok).mono ?_
  clear m2
  rintro e w4 ⟨v4, a4, rfl, hM4, hx4⟩
  have hx4 := hE4.trans hx4
  have hP4 := hM4.prob
  have hv4 := hM4.val
  clear hM4 hE4
  subst hv4
  go_wp2_with fail
  refine (Farkas_l _ _ 16000000 _ hP4 (fun hv => IP.bnd ip2_ok (by decide) (by decide) hv)).mono ?_
  rintro e w5 ⟨Af, nf, cf, ok, yf, rfl, hF1, hF2, hF3, hx5⟩
  have hx5 := hx4.trans hx5
  obtain rfl : ok = true := by
    obtain ⟨y, hy⟩ := ip2_sol
    rcases hF3 with ⟨h, _⟩ | ⟨_, _, h⟩
    · exact h
    · exact absurd (by rw [hy]; rfl) (h ip2_valid)
  clear hF1 hF2 hF3 hP4 hx4
  have hz5 := hz.ext hx5
  have hX5 := hX.ext hx5
  have SB5 := SB.ext hx5
  have hE5 := hE3.trans hx5
  obtain ⟨ba, rfl, hR⟩ := hX5.2.2 (by omega)
  have hcx := hX5.1
  have k0 := SB5.c0
  have k1 := SB5.c1
  have k2 := SB5.c2
  have k3 := SB5.c3
  have k4 : w5.cell? ⟨sb, 4, none⟩ = some _ := SB5.cell 4
  go_wp2_with fail
  refine (RatText_b _ 12 _ _ hz5 (by omega) (htab.ext hE5)).mono ?_
  rintro e w6 ⟨rfl, hx6⟩
  rw [show ratText 12 = [49, 50] by decide +kernel]
  have k4 := hx6.cell k4
  obtain ⟨p1, A1, m1, c1, p1', A1', m1', c1', e0, e1, e2, e3, hr1⟩ := (hR.ext hx6).at (j := 0) (by omega)
  rw [x0] at hr1
  go_wp2_with fail
  refine (RatText_b _ 4 _ _ ⟨hr1, by rw [← x0]; exact hbx 0 (by omega)⟩ (by omega) ((htab.ext hE5).ext hx6)).mono ?_
  rintro e w7 ⟨rfl, hx7⟩
  rw [show ratText 4 = [52] by decide +kernel]
  have k4 := hx7.cell k4
  obtain ⟨p2, A2, m2, c2, p2', A2', m2', c2', g0, g1, g2, g3, hr2⟩ := ((hR.ext hx6).ext hx7).at (j := 1) (by omega)
  rw [x1] at hr2
  go_wp2_with fail
  refine (RatSign_b _ 0 _ _ ⟨hr2, by rw [← x1]; exact hbx 1 (by omega)⟩).mono ?_
  rintro e w8 ⟨rfl, hx8⟩
  go_wp2_with fail
  go_ret
  exact ⟨rfl, ((hE5.trans hx6).trans hx7).trans hx8⟩
end Go.Proofs.YtgffcblldebelaaDoor.Lp

namespace Go.Proofs.YtgffcblldebelaaDoor.Lp
open Go.RowKit Go.Proofs.YtgffcblldebelaaDoor.Big Go.Proofs.YtgffcblldebelaaDoor.Rt

def fitB (p : IP) : Bool := decide (p.obj.length ≤ 8) && decide (p.rows.length ≤ 8)
theorem fits_b (v : Value) (p : IP) (w : World) (h : IPV w v p) : Calls Tryd.prog 15 #[v] w (ValPost w (.bool (fitB p))) := by
  obtain ⟨Ao, co, Ar, cr, rfl, -, -, -, -⟩ := h
  obtain ⟨n, hn⟩ : ∃ n, n = p.obj.length := ⟨_, rfl⟩
  obtain ⟨m, hm⟩ : ∃ n, n = p.rows.length := ⟨_, rfl⟩
  obtain ⟨F, hF⟩ : ∃ F, F = fitB p := ⟨_, rfl⟩
  rw [← hF]
  have HF : Hid (F = (decide (n ≤ 8) && decide (m ≤ 8))) := Lib.hid (by rw [hF, hn, hm]; rfl)
  rw [← hn, ← hm]
  clear hn hm hF
  have B := Box.new w 25 #[.slice Ao n co, .slice Ar m cr, .int .u8 (p.den : Int)]
  have hE0 : Ext w (w.alloc (.cells #[.slice Ao n co, .slice Ar m cr, .int .u8 (p.den : Int)] 25)) := (Ext.refl w).alloc _
  go_enter Tryd.func15, Tryd.ntmps15
  go_upto_region 1 with fail
  generalize (w.alloc (.cells #[.slice Ao n co, .slice Ar m cr, .int .u8 (p.den : Int)] 25)) = V at *
  have c0 := B.c0
  have c1 := B.c1
  by_cases h1 : n ≤ 8
  · have e1 : decide ((n : Int) ≤ 8) = true := by simp; omega
    have HF2 : Hid (F = decide (m ≤ 8)) := Lib.hid (by rw [HF.out, decide_eq_true h1]; rfl)
    clear h1
    by_cases h2 : m ≤ 8
    · have e2 : decide ((m : Int) ≤ 8) = true := by simp; omega
      have HF3 : Hid (F = true) := Lib.hid (by rw [HF2.out, decide_eq_true h2])
      clear h2
      go_wp2_with fail
      go_ret
      exact ⟨by rw [HF3.out]; rfl, hE0⟩
    · have e2 : decide ((m : Int) ≤ 8) = false := by simp; omega
      have HF3 : Hid (F = false) := Lib.hid (by rw [HF2.out, decide_eq_false h2])
      clear h2
      go_wp2_with fail
      go_ret
      exact ⟨by rw [HF3.out]; rfl, hE0⟩
  · have e1 : decide ((n : Int) ≤ 8) = false := by simp; omega
    have HF2 : Hid (F = false) := Lib.hid (by rw [HF.out, decide_eq_false h1]; rfl)
    clear h1
    go_wp2_with fail
    go_ret
    exact ⟨by rw [HF2.out]; rfl, hE0⟩
theorem fitB_iff {p : IP} : fitB p = true ↔ p.obj.length ≤ 8 ∧ p.rows.length ≤ 8 := by
  unfold fitB; rw [Bool.and_eq_true, decide_eq_true_eq, decide_eq_true_eq]
theorem IP.pn (p : IP) : p.pl.toP.n = p.obj.length := by show (p.obj.map _).length = _; simp
theorem IP.pm (p : IP) : p.pl.toP.m = p.rows.length := by show (p.rows.map _).length = _; simp
end Go.Proofs.YtgffcblldebelaaDoor.Lp
