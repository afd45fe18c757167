/- Walk: awake of the laws of ilp. -/
import Derived.Test.YthafabkjidifeaaIAP
import Derived.Test.YthafabkjidifeaaIZ0
import Derived.Test.YthafabkjidifeaaLW0
set_option linter.unusedVariables false
set_option linter.unusedSimpArgs false
namespace Go.Proofs.Ythafabkjidifeaa.Lp
open Go.RowKit Go.Proofs.Ythafabkjidifeaa.Big Go.Proofs.Ythafabkjidifeaa.Rt

theorem iRowA {w : World} {b : Nat} {E : TypeId} {x y : Int} (B : Box w b E #[.int .i32 x, .int .i32 y]) : Row w (.slice (some ⟨b, 0, none⟩) 2 2) (wV [x, y]) := by
  refine ⟨_, 2, rfl, by simp [wV], by omega, fun _ => ⟨b, 0, rfl, fun j u hj => ?_⟩⟩
  rw [Nat.zero_add, B.cell j, ← hj]
  exact List.getElem?_toArray
theorem iRowB {w : World} {b : Nat} {E : TypeId} {x : Int} (B : Box w b E #[.int .i32 x]) : Row w (.slice (some ⟨b, 0, none⟩) 1 1) (wV [x]) := by
  refine ⟨_, 1, rfl, by simp [wV], by omega, fun _ => ⟨b, 0, rfl, fun j u hj => ?_⟩⟩
  rw [Nat.zero_add, B.cell j, ← hj]
  exact List.getElem?_toArray
theorem memA (w : World) (c0 c1 : Array Value) (r : IRow) (obj : List Int) (rel ri : Int) (n l : Nat) (hr : r.rel = rel) (hri : r.right = ri) (hn : n = obj.length) (hl : l = r.coef.length)
    (h0 : ∀ W b, Box W b 21 c0 → Row W (.slice (some ⟨b, 0, none⟩) n n) (wV obj)) (h1 : ∀ W b, Box W b 21 c1 → Row W (.slice (some ⟨b, 0, none⟩) l l) (wV r.coef)) :
    IPV (((w.alloc (.cells c0 21)).alloc (.cells c1 21)).alloc (.cells #[.slice (some ⟨w.heap.size + 1, 0, none⟩) l l, .int .u8 rel, .int .i32 ri] 52))
    (.agg #[.slice (some ⟨w.heap.size, 0, none⟩) n n, .slice (some ⟨w.heap.size + 1 + 1, 0, none⟩) 1 1, .int .u8 0]) ⟨obj, [r], 0⟩ ∧
    Ext w (((w.alloc (.cells c0 21)).alloc (.cells c1 21)).alloc (.cells #[.slice (some ⟨w.heap.size + 1, 0, none⟩) l l, .int .u8 rel, .int .i32 ri] 52)) := by
  subst hr hri hn hl
  obtain ⟨w1, e1⟩ : ∃ x, x = w.alloc (.cells c0 21) := ⟨_, rfl⟩
  have B1 := Box.new w 21 c0
  have x1 : Ext w w1 := by rw [e1]; exact (Ext.refl w).alloc _
  have s1 : w1.heap.size = w.heap.size + 1 := by rw [e1]; simp
  rw [← e1] at B1 ⊢
  obtain ⟨w2, e2⟩ : ∃ x, x = w1.alloc (.cells c1 21) := ⟨_, rfl⟩
  have B2 := Box.new w1 21 c1
  have x2 : Ext w1 w2 := by rw [e2]; exact (Ext.refl w1).alloc _
  have s2 : w2.heap.size = w.heap.size + 1 + 1 := by rw [e2]; simp [s1]
  rw [s1, ← e2] at B2
  rw [← e2]
  obtain ⟨w4, e4⟩ : ∃ x, x = w2.alloc (.cells #[.slice (some ⟨w.heap.size + 1, 0, none⟩) r.coef.length r.coef.length, .int .u8 (r.rel : Int), .int .i32 r.right] 52) := ⟨_, rfl⟩
  have B4 := Box.new w2 52 #[.slice (some ⟨w.heap.size + 1, 0, none⟩) r.coef.length r.coef.length, .int .u8 (r.rel : Int), .int .i32 r.right]
  have x4 : Ext w2 w4 := by rw [e4]; exact (Ext.refl w2).alloc _
  rw [s2, ← e4] at B4
  rw [← e4]
  refine ⟨⟨_, obj.length, _, 1, rfl, h0 _ _ ((B1.ext x2).ext x4), by simp, by omega, fun _ => ⟨_, 0, rfl, fun j r' hj => ?_⟩⟩, (x1.trans x2).trans x4⟩
  rcases j with _ | j
  · obtain rfl := Option.some.inj hj
    exact ⟨_, _, B4.cell 0, B4.cell 1, B4.cell 2, h1 _ _ (B2.ext x4)⟩
  · have hj : none = some r' := hj
    cases hj
set_option maxHeartbeats 1000000 in
set_option maxRecDepth 100000 in
theorem awake_i (w : World) : Calls Try.prog 11 #[] w (fun e w' => e = .returned (.bool true) ∧ Ext w w') := by
  go_enter Try.func11, Try.ntmps11
  go_wp2_with fail
  obtain ⟨m1, hE1⟩ := memA w #[.int .i32 1, .int .i32 1] #[.int .i32 2, .int .i32 2] ⟨[2, 2], 1, 3⟩ [1, 1] 1 3 2 2 rfl rfl rfl rfl (fun _ _ B => iRowA B) (fun _ _ B => iRowA B)
  refine (Make_b _ ipA _ m1 ipA_ok).mono ?_
  clear m1
  rintro e w1 ⟨v1, a, rfl, hM, hx1⟩
  have hE1 := hE1.trans hx1
  clear hx1
  have hP := hM.prob
  have hv := hM.val
  clear hM
  rw [show ipA.pl.toP.n = 2 by decide +kernel, show ipA.pl.toP.m = 1 by decide +kernel] at hv
  obtain ⟨Ao1, hAo1⟩ : ∃ x, x = a.Ao := ⟨_, rfl⟩
  obtain ⟨co1, hco1⟩ : ∃ x, x = a.co := ⟨_, rfl⟩
  obtain ⟨Ar1, hAr1⟩ : ∃ x, x = a.Ar := ⟨_, rfl⟩
  obtain ⟨cr1, hcr1⟩ : ∃ x, x = a.cr := ⟨_, rfl⟩
  rw [← hAo1, ← hco1, ← hAr1, ← hcr1] at hv
  clear hAo1 hco1 hAr1 hcr1
  subst hv
  go_upto_region 2 with fail
  have PA := Box.new w1 39 #[.slice Ao1 2 co1, .slice Ar1 1 cr1]
  have hxa : Ext w1 (w1.alloc (.cells #[.slice Ao1 2 co1, .slice Ar1 1 cr1] 39)) := (Ext.refl w1).alloc _
  generalize (w1.alloc (.cells #[.slice Ao1 2 co1, .slice Ar1 1 cr1] 39)) = V at *
  obtain ⟨pa, hpa⟩ : ∃ x, x = w1.heap.size := ⟨_, rfl⟩
  rw [← hpa] at PA ⊢
  clear hpa
  have hE2 := hE1.trans hxa
  have hP := hP.ext hxa
  clear hE1 hxa
  go_wp2_with fail
  obtain ⟨m2, hE3⟩ := memA V #[.int .i32 1] #[.int .i32 2] ⟨[2], 2, 1⟩ [1] 2 1 1 1 rfl rfl rfl rfl (fun _ _ B => iRowB B) (fun _ _ B => iRowB B)
  refine (Make_b _ ipB _ m2 ipB_ok).mono ?_
  clear m2
  rintro e w3 ⟨v3, b, rfl, hM3, hx3⟩
  have hE3 := hE3.trans hx3
  clear hx3
  have hP3 := hM3.prob
  have hv3 := hM3.val
  clear hM3
  rw [show ipB.pl.toP.n = 1 by decide +kernel, show ipB.pl.toP.m = 1 by decide +kernel] at hv3
  obtain ⟨Ao2, hAo1⟩ : ∃ x, x = b.Ao := ⟨_, rfl⟩
  obtain ⟨co2, hco1⟩ : ∃ x, x = b.co := ⟨_, rfl⟩
  obtain ⟨Ar2, hAr1⟩ : ∃ x, x = b.Ar := ⟨_, rfl⟩
  obtain ⟨cr2, hcr1⟩ : ∃ x, x = b.cr := ⟨_, rfl⟩
  rw [← hAo1, ← hco1, ← hAr1, ← hcr1] at hv3
  clear hAo1 hco1 hAr1 hcr1
  subst hv3
  go_upto_region 3 with fail
  have PB := Box.new w3 39 #[.slice Ao2 1 co2, .slice Ar2 1 cr2]
  have hxb : Ext w3 (w3.alloc (.cells #[.slice Ao2 1 co2, .slice Ar2 1 cr2] 39)) := (Ext.refl w3).alloc _
  generalize (w3.alloc (.cells #[.slice Ao2 1 co2, .slice Ar2 1 cr2] 39)) = V2 at *
  obtain ⟨pb, hpb⟩ : ∃ x, x = w3.heap.size := ⟨_, rfl⟩
  rw [← hpb] at PB ⊢
  clear hpb
  have hE4 := hE3.trans hxb
  have PA := PA.ext hE4
  have hP := hP.ext hE4
  have hP3 := hP3.ext hxb
  have hE5 := hE2.trans hE4
  clear hE2 hE3 hE4 hxb
  obtain ⟨x, t, hs, hx01⟩ := ipA_solve
  have HX01 := Lib.hid hx01
  clear hx01
  have a0 := PA.c0
  have a1 := PA.c1
  go_wp2_with fail
  have hS := Solve_i _ ipA.pl.toP 50 2 60 134217728 50 V2 hP (by omega) (by omega) (by decide) (fun hv => IP.can ipA_ok (by decide) (by decide) (by omega) (by decide) (by omega) hv) (by decide) (by omega)
  rw [hs] at hS
  refine hS.mono ?_
  clear hS hs
  rintro e w5 ⟨g, tb, h, rfl, hPt, -, -, -, hx5⟩
  rw [show ipA.pl.toP.n = 2 by decide +kernel] at hPt ⊢
  clear a0 a1 PA hP
  go_upto_region 4 with fail
  have RA := Box.new w5 32 #[.int .i64 1, .slice (some ⟨g, 0, none⟩) 2 2, .pointer (some ⟨tb, 0, none⟩)]
  have hxr : Ext w5 (w5.alloc (.cells #[.int .i64 1, .slice (some ⟨g, 0, none⟩) 2 2, .pointer (some ⟨tb, 0, none⟩)] 32)) := (Ext.refl w5).alloc _
  generalize (w5.alloc (.cells #[.int .i64 1, .slice (some ⟨g, 0, none⟩) 2 2, .pointer (some ⟨tb, 0, none⟩)] 32)) = V3 at *
  obtain ⟨ra, hra⟩ : ∃ x, x = w5.heap.size := ⟨_, rfl⟩
  rw [← hra] at RA ⊢
  clear hra
  have hx6 := hx5.trans hxr
  have PB := PB.ext hx6
  have hP3 := hP3.ext hx6
  have hPt := hPt.ext hxr
  have hE6 := hE5.trans hx6
  clear hx5 hxr hx6 hE5
  have b0 := PB.c0
  have b1 := PB.c1
  go_wp2_with fail
  have hS := Solve_i _ ipB.pl.toP 50 2 60 134217728 50 V3 hP3 (by omega) (by omega) (by decide) (fun hv => IP.can ipB_ok (by decide) (by decide) (by omega) (by decide) (by omega) hv) (by decide) (by omega)
  rw [ipB_solve] at hS
  refine hS.mono ?_
  clear hS
  rintro e w7 ⟨rfl, hx7⟩
  clear b0 b1 PB hP3
  go_upto_region 5 with fail
  have hxs : Ext w7 (w7.alloc (.cells #[.int .i64 0, .slice none 0 0, .pointer none] 32)) := (Ext.refl w7).alloc _
  generalize (w7.alloc (.cells #[.int .i64 0, .slice none 0 0, .pointer none] 32)) = W at *
  have hx8 := hx7.trans hxs
  have RA := RA.ext hx8
  have hPt := hPt.ext hx8
  have hE8 := hE6.trans hx8
  clear hx7 hxs hx8 hE6
  have k0 : ∀ w', Later W w' → w'.cell? ⟨ra, 0, none⟩ = some (.int .i64 1) := fun w' h => (RA.ext h).c0
  have k1 : ∀ w', Later W w' → w'.cell? ⟨ra, 1, none⟩ = some (.slice (some ⟨g, 0, none⟩) 2 2) := fun w' h => (RA.ext h).c1
  have k2 : ∀ w', Later W w' → w'.cell? ⟨ra, 2, none⟩ = some (.pointer (some ⟨tb, 0, none⟩)) := fun w' h => (RA.ext h).cell 2
  have k3 : ∀ w', Later W w' → w'.cell? ⟨g, 0, none⟩ = some (.int .i64 (x 0)) := fun w' h => (hPt.ext h).cell (by omega)
  have k4 : ∀ w', Later W w' → w'.cell? ⟨g, 1, none⟩ = some (.int .i64 (x 1)) := fun w' h => (hPt.ext h).cell (by omega)
  have r1 : IntKind.i64.wrap (x 0 + x 1) = 1 := by rw [HX01.out]; exact IntWalk.i64_in _ (by omega)
  have hnn : ∀ W, (binOp BinOp.neq 30 (.pointer (some ⟨tb, 0, none⟩)) (.pointer none)).run Try.prog W = .ok (.bool true) W := fun _ => by kernel_rfl
  have ks := Later.refl W
  go_region_held3 (fun w' => Later W w') ((repeat (first | assumption | apply Later.drew | apply Later.drewN | apply Later.alloc | (refine Later.step ?_ (by assumption))))) (first
    | (go_at_call 19; (with_reducible refine (size_nil _).mono ?_); rintro e wk ⟨rfl, hxk⟩)
    )
  all_goals (
    have hL9 : Ext W wk := by assumption
    clear k0 k1 k2 k3 k4 r1 hnn
    go_wp2_with fail
    go_ret
    exact ⟨rfl, hE8.trans hL9⟩)
end Go.Proofs.Ythafabkjidifeaa.Lp
